/- joined texts of a proof: BagK, ShelfB, BagL, BagS, PlainD, AreaP, PointP -/
import Derived.Test.YtkddkbpoefidpaaGreatDoorKG02
import Derived.IntWalk
import Derived.Shelf.Spec.SlicesGrow
import Derived.Ground.Names8Prog
import Derived.Test.YtkddkbpoefidpaaGreatDoorProg
import Derived.Sort.OwnSortedInts
import Derived.Lib.OwnBridge
import Derived.Lib.SlicesCompact
namespace Go.Proofs.YtkddkbpoefidpaaGreatDoor
open Go.RowKit
theorem RepAll.flatten_take {α:Type} {R:Rep α} {w:View} {css:List (List Value)} {xs:List α} (h:RepAll R w css xs) (k:Nat):(css.take k).flatten=css.flatten.take (k*R.size):=by
 induction css generalizing xs k with
 |nil=>simp
 |cons c css ih=>cases xs with
  |nil=>exact h.elim
  |cons x xs=>cases k with
   |zero=>simp
   |succ k =>
    have hc:=R.len h.1
    rw [List.take_succ_cons,List.flatten_cons,List.flatten_cons,ih h.2,List.take_append,hc,Nat.succ_mul,List.take_of_length_le (l:=c) (by rw [hc];omega),Nat.add_sub_cancel]
theorem RepAll.flatten_drop {α:Type} {R:Rep α} {w:View} {css:List (List Value)} {xs:List α} (h:RepAll R w css xs) (k:Nat):(css.drop k).flatten=css.flatten.drop (k*R.size):=by
 induction css generalizing xs k with
 |nil=>simp
 |cons c css ih=>cases xs with
  |nil=>exact h.elim
  |cons x xs=>cases k with
   |zero=>simp
   |succ k =>
    have hc:=R.len h.1
    rw [List.drop_succ_cons,List.flatten_cons,ih h.2,List.drop_append,hc,Nat.succ_mul,List.drop_of_length_le (l:=c) (by rw [hc];omega),Nat.add_sub_cancel,List.nil_append]
theorem SliceOf.takeV {α:Type} {R:Rep α} {w:View} {b o cap n:Nat} {xs:List α} (h:SliceOf R w (.slice (some ⟨b,o,none⟩) n cap) xs) (k:Nat) (hk:k≤xs.length) :
  SliceOf R w (.slice (some ⟨b,o,none⟩) k cap) (xs.take k):=by
 obtain⟨css,h1,h2⟩:=h
 refine⟨css.take k,h1.take k,?_⟩
 have hl:(xs.take k).length=k:=by simp;omega
 rw [hl,h1.flatten_take]
 rcases h2 with ⟨he,_⟩ | ⟨ad,c,he,g1,g2,g3⟩
 ·cases he
 ·injection he with e1 e2 e3
  injection e1 with e1
  subst e1 e2 e3
  refine .inr ⟨_,cap,rfl,by omega,g2,?_⟩
  rcases g3 with g3 | ⟨b',o',ha,g3⟩
  ·exact .inl (by rw [g3];simp)
  ·refine .inr ⟨b',o',ha,fun j u hj=> ?_⟩
   rw [List.getElem?_take]at hj
   split at hj
   ·exact g3 j u hj
   ·cases hj
theorem SliceOf.dropV {α:Type} {R:Rep α} {w:View} {b o cap n:Nat} {xs:List α} (h:SliceOf R w (.slice (some ⟨b,o,none⟩) n cap) xs) (k:Nat) (hk:k≤xs.length) :
  SliceOf R w (.slice (some ⟨b,o+k*R.size,none⟩) (xs.length - k) (cap - k)) (xs.drop k):=by
 obtain⟨css,h1,h2⟩:=h
 refine⟨css.drop k,h1.drop k,?_⟩
 rw [List.length_drop,h1.flatten_drop]
 rcases h2 with ⟨he,_⟩ | ⟨ad,c,he,g1,g2,g3⟩
 ·cases he
 ·injection he with e1 e2 e3
  injection e1 with e1
  subst e1 e2 e3
  refine .inr ⟨_,cap - k,rfl,by omega,by omega,?_⟩
  rcases g3 with g3 | ⟨b',o',ha,g3⟩
  ·exact .inl (by rw [g3];simp)
  ·injection ha with ha1 ha2
   subst ha1 ha2
   refine .inr ⟨b,_,rfl,fun j u hj=> ?_⟩
   rw [List.getElem?_drop]at hj
   rw [Nat.add_assoc]
   exact g3 _ u hj
def mergeBy {α:Type} (c:α→α→Int) (l l':List α):List α:=List.merge l l' fun a b=>decide (c a b≤0)
theorem sort_halves {α:Type} {c:α→α→Int} (h:Ord3 c) (l:List α) (k:Nat):mergeBy c (sortBy c (l.take k)) (sortBy c (l.drop k))=sortBy c l:=by
 have hle : ∀a b:α,(decide (c a b≤0)=true↔c a b≤0):=fun a b=>by simp
 refine sortBy_unique h ?_ ?_
 ·refine(List.merge_perm_append _).trans ?_
  refine((sortBy_perm c _).append (sortBy_perm c _)).trans ?_
  rw [List.take_append_drop]
 ·have:=List.pairwise_merge (le:=fun a b=>decide (c a b≤0)) (fun a b d h1 h2=>by simp only [decide_eq_true_eq]at *;exact h.le_tr a b d h1 h2)
   (fun a b=>by simp only [Bool.or_eq_true,decide_eq_true_eq];exact h.le_total a b) (sortBy c (l.take k)) (sortBy c (l.drop k)) ((sortBy_pair h _).imp (by simp)) ((sortBy_pair h _).imp (by simp))
  exact this.imp (by simp)
theorem merge_left {α:Type} (c:α→α→Int) (l l':List α) (i j:Nat) (hi:i<l.length) (h : ∀hj:j<l'.length,c l[i] l'[j]≤0) :
  mergeBy c (l.drop i) (l'.drop j)=l[i]::mergeBy c (l.drop (i+1)) (l'.drop j):=by
 unfold mergeBy
 rw [List.drop_eq_getElem_cons hi]
 by_cases hj:j<l'.length
 ·rw [List.drop_eq_getElem_cons hj,List.cons_merge_cons,if_pos (by simpa using h hj)]
 ·have e:l'.drop j = []:=List.drop_eq_nil_of_le (by omega)
  rw [e]
  simp
theorem merge_right {α:Type} (c:α→α→Int) (l l':List α) (i j:Nat) (hj:j<l'.length) (h : ∀hi:i<l.length,¬c l[i] l'[j]≤0) :
  mergeBy c (l.drop i) (l'.drop j)=l'[j]::mergeBy c (l.drop i) (l'.drop (j+1)):=by
 unfold mergeBy
 rw [List.drop_eq_getElem_cons hj]
 by_cases hi:i<l.length
 ·rw [List.drop_eq_getElem_cons hi,List.cons_merge_cons,if_neg (by simpa using h hi)]
 ·have e:l.drop i = []:=List.drop_eq_nil_of_le (by omega)
  rw [e]
  simp
theorem old_avoid {α:Type} {R:Rep α} {W w':World} {S:Nat→Prop} {e:TypeId} {v:Value} {xs:List α} (hb:Below W.heap.size W w') (hown:OwnOf R w' S W.heap.size e v xs) :
  Sub (on W (fun k=>k<W.heap.size)) (on w' (avoid (fun k=>k<W.heap.size) v)) :=
 (below_sub hb fun _ h=>h).trans (on_mono _ fun k _ hk=>⟨fun he=>by have:=(hown.lt k he.symm).1;omega,hk⟩)
theorem full_nil (w:World):Sub w.cell? (on w (avoid (fun _=>True) (.slice none 0 0))):=full_on _ _ fun k _=>⟨by simp [Value.ownBlock],trivial⟩
theorem sortBy_short {α:Type} (c:α→α→Int) (l:List α) (h:l.length<2):sortBy c l=l:=by
 match l,h with
 |[],_=>simp [sortBy]
 |[a],_=>simp [sortBy]
set_option maxRecDepth 100000 in
set_option maxHeartbeats 2000000 in
theorem ref_sort_step (l:List Row) (hl:l.length≤1048576)
  (ih : ∀(l':List Row) (v:Value) (w:World),SliceOf Rep.row w.cell? v l'→l'.length<l.length→Calls Tryz.prog 88 #[v] w fun e w'=> ∃v',e = .returned v'∧SliceOf Rep.row w'.cell? v' (sortBy cmpRow l')∧Ext w w')
  (v:Value) (w:World) (hv:SliceOf Rep.row w.cell? v l) :
  Calls Tryz.prog 88 #[v] w fun e w'=> ∃v',e = .returned v'∧SliceOf Rep.row w'.cell? v' (sortBy cmpRow l)∧Ext w w':=by
 obtain⟨i0,hi,hz0,hz1,hz2⟩:=info_parts infoRow
 obtain⟨pa,ca,rfl,ha1,ha2,ha3⟩:=hv.form
 have HV:=Lib.hid hv
 unfold maxLen at ha2
 go_enter Tryz.func88,Tryz.ntmps88
 by_cases h2:l.length<2
 ·have hd:decide ((l.length:Int)<2)=true:=by simp;omega
  have hs:=sortBy_short cmpRow l h2
  have HS:=Lib.hid hs
  clear hv ha3 hs
  go_wp2_with (at_builtin;refine wpList_append_all Rep.row (fun _=>True) rfl _ _ 52 rfl w.heap.size 70 i0 _ 48 Tryz.underlying52 hi hz0 hz1 hz2 rfl (by decide) _ [] rfl (OwnOf.nil _ _ _ _ _) _ l rfl (HV.out.ext (full_nil w)) ?c1 ?c2 ?c3 ?_)
  case c1=>simp [maxLen];omega
  case c2=>simp;omega
  case c3=>exact Nat.le_refl _
  intro v' w1 hown hgr _
  go_wp2_with fail
  go_ret
  exact⟨v',rfl,by rw [HS.out];simpa using hown.slice,Below.grown (Ext.refl w) hgr (Nat.le_refl _) (fun k hk=>by simp [Value.ownBlock]at hk)⟩
 ·have hd:decide ((l.length:Int)<2)=false:=by simp;omega
  obtain⟨ba,oa,rfl⟩:=ha3 (by decide) (by omega)
  have h1:=HV.out.takeV (l.length / 2) (by omega)
  have h2:SliceOf Rep.row w.cell? (.slice (some ⟨ba,oa+l.length / 2*2,none⟩) (l.length - l.length / 2) (ca - l.length / 2)) (l.drop (l.length / 2)):=HV.out.dropV (l.length / 2) (by omega)
  have HS:=Lib.hid (sort_halves ord_row l (l.length / 2))
  have H1:=Lib.hid h1
  have H2:=Lib.hid h2
  have hl1:(l.take (l.length / 2)).length<l.length:=by simp;omega
  have hl2:(l.drop (l.length / 2)).length<l.length:=by simp;omega
  have hxr:=Ext.refl w
  generalize hm:l.length / 2=m at h1 h2 HS H1 H2 hl1 hl2
  have hq1:(l.length:Int).tdiv 2=(m:Int):=by rw [Int.tdiv_eq_ediv_of_nonneg (by omega)];omega
  have hq2:(l.length:Int) / 2=(m:Int):=by omega
  have hq3:IntKind.i64.wrap (m:Int)=(m:Int):=Go.IntWalk.i64_in _ (by omega)
  have hq4:IntKind.i64.wrap ((l.length:Int).tdiv 2)=(m:Int):=by rw [hq1,hq3]
  have hm1:(0:Int)≤(m:Int):=by omega
  have hm2:(m:Int)≤(l.length:Int):=by omega
  have hm3:(m:Int)≤(ca:Int):=by omega
  clear hv ha3 h1 h2 hm
  go_wp2_with fail
  go_region_held3 (fun w'=>Ext w w')
   (first |exact hxr.drew | assumption | exact Ext.trans (by assumption) hxA | exact Ext.trans (by assumption) hxB)
   (first |(go_at_call 88;refine(ih (l.take m) _ _ (by with_reducible exact H1.out.ext (‹Ext w _›).full) hl1).mono ?_;rintro e wA ⟨vA,rfl,sA,hxA⟩) | (go_at_call 88;refine(ih (l.drop m) _ _ (by with_reducible exact H2.out.ext (‹Ext w _›).full) hl2).mono ?_;rintro e wB ⟨vB,rfl,sB,hxB⟩))
  all_goals (first
   |(have tA:=sA.ext hxB.full;have tB:=sB.ext (Sub.refl _))
   |(have tB:=sB.ext hxA.full;have tA:=sA.ext (Sub.refl _)))
  all_goals (have hx0:= ‹Ext w _›)
  all_goals clear sA sB hxA hxB
  obtain⟨a1,k1,rfl,hA1,hA2,hA3⟩:=tA.form
  obtain⟨a2,k2,rfl,hB1,hB2,hB3⟩:=tB.form
  have hla:(sortBy cmpRow (l.take m)).length+(sortBy cmpRow (l.drop m)).length=l.length:=by rw [sortBy_length,sortBy_length];simp;omega
  generalize sortBy cmpRow (l.take m)=la at *
  generalize sortBy cmpRow (l.drop m)=lb at *
  have A0:=Lib.hid (tA.ext (full_on _ (fun k=>k<wB.heap.size) fun k hk=>hk))
  have B0:=Lib.hid (tB.ext (full_on _ (fun k=>k<wB.heap.size) fun k hk=>hk))
  unfold maxLen at hA2 hB2
  clear tA tB
  go_wp2_with fail
  go_loopg [5,6,7] (la.length+lb.length) (fun gk out i j wr=> ∃p q:Nat,p≤la.length∧q≤lb.length∧gk=(la.length - p)+(lb.length - q)∧i = .int .i64 p∧j = .int .i64 q∧(∃xs,xs.length=p+q∧OwnOf Rep.row wr (fun k=>k<wB.heap.size) wB.heap.size 70 out xs∧xs++mergeBy cmpRow (la.drop p) (lb.drop q)=sortBy cmpRow l)∧Below wB.heap.size wB wr)
  case atStart=>exact⟨0,0,by omega,by omega,by omega,rfl,rfl,⟨[],rfl,OwnOf.nil _ _ _ _ _,by simpa using HS.out⟩,Below.refl _ _⟩
  case round =>
   obtain⟨p,q,hpl,hql,rfl,rfl,rfl,⟨xs,hxs,hown,hxm⟩,hbw⟩:=hrel
   have HO:=Lib.hid hown
   have HX:=Lib.hid hxm
   clear hown hxm
   by_cases hp:p<la.length
   ·by_cases hq:q<lb.length
    ·obtain⟨b1,o1,rfl⟩:=hA3 (by decide) (by omega)
     obtain⟨u1,u2,c1,c2,s1,s2⟩:=row_at A0.out p hp
     replace c1:=(on_some.1 (below_sub hbw (fun _ h=>h) _ _ c1)).2
     replace c2:=(on_some.1 (below_sub hbw (fun _ h=>h) _ _ c2)).2
     obtain⟨b2,o2,rfl⟩:=hB3 (by decide) (by omega)
     obtain⟨v1,v2,d1,d2,t1,t2⟩:=row_at B0.out q hq
     replace d1:=(on_some.1 (below_sub hbw (fun _ h=>h) _ _ d1)).2
     replace d2:=(on_some.1 (below_sub hbw (fun _ h=>h) _ _ d2)).2
     have hmL:cmpRow la[p] lb[q]≤0→_:=fun h=>merge_left cmpRow la lb p q hp (fun _=>h)
     have hmR : ¬cmpRow la[p] lb[q]≤0→_:=fun h=>merge_right cmpRow la lb p q hq (fun _=>h)
     have hd1:decide ((p:Int)<(la.length:Int))=true:=by simp;omega
     have hd2:((q:Int)==(lb.length:Int))=false:=by simp;omega
     have hd3:(p:Int)<(la.length:Int):=by omega
     have hd4:(q:Int)<(lb.length:Int):=by omega
     have hsv:Sub (on wB (fun k=>k<wB.heap.size)) wr.cell?:=(below_sub hbw (fun _ h=>h)).trans (on_sub _ _)
     generalize la[p]=x at s1 s2 hmL hmR
     generalize lb[q]=y at t1 t2 hmL hmR
     have S1:=Lib.hid s1
     have S2:=Lib.hid s2
     obtain⟨p1,q1,rfl,_⟩:=s1.form
     obtain⟨p2,q2,rfl,_⟩:=s2.form
     clear s1 s2
     have T1:=Lib.hid t1
     have T2:=Lib.hid t2
     obtain⟨p3,q3,rfl,_⟩:=t1.form
     obtain⟨p4,q4,rfl,_⟩:=t2.form
     clear t1 t2
     by_cases hc:cmpRow x y≤0
     ·have hm:=hmL hc
      have hb:decide (cmpRow y x<0)=false:=by have:=ord_row.anti x y;simp;omega
      have HM:=Lib.hid hm
      have HB:=Lib.hid hb
      clear hm hmL hmR hc hb
      have hxr:=Gro.refl wr
      go_wp2_with fail
      go_region_held3 (fun w'=>Gro wr w'∧w'.cell? ⟨b1,o1+p*2,none⟩=some (.slice p1 x.vals.length q1)∧w'.cell? ⟨b1,o1+p*2+1,none⟩=some (.slice p2 x.lin.length q2)∧w'.cell? ⟨b2,o2+q*2,none⟩=some (.slice p3 y.vals.length q3)∧w'.cell? ⟨b2,o2+q*2+1,none⟩=some (.slice p4 y.lin.length q4))
       (first |exact⟨hxr.drew,c1,c2,d1,d2⟩ | assumption | exact keepG4 (by assumption) hx2)
       (first |(go_at_call 143;refine(ref_less _ _ _ _ y x _ (by exact T1.out.ext ((hsv).trans (And.left ‹Gro wr _∧_›).ext.full)) (by exact S1.out.ext ((hsv).trans (And.left ‹Gro wr _∧_›).ext.full)) (by exact T2.out.ext ((hsv).trans (And.left ‹Gro wr _∧_›).ext.full)) (by exact S2.out.ext ((hsv).trans (And.left ‹Gro wr _∧_›).ext.full))).mono ?_;rintro e w2 ⟨rfl,hx2⟩))
      all_goals (obtain⟨hfin,_⟩:= ‹Gro wr _∧_›)
      all_goals clear hxr
      all_goals clear d1 d2
      all_goals rw [HB.out]
      all_goals (
       replace c1:=hfin.at c1
       replace c2:=hfin.at c2
       have HO2:=Lib.hid (HO.out.ext hfin.ext)
       have hbw2:=Below.trans hbw (hfin.ext.mono hbw.size)
       clear hfin
       go_wp2_with (at_builtin;refine wpList_append_one Rep.row (fun k=>k<wB.heap.size) rfl _ _ 52 rfl wB.heap.size 70 i0 _ 48 Tryz.underlying52 hi hz0 hz1 hz2 rfl (by decide) _ xs rfl (HO2.out.ext ((Ext.refl _).alloc _)) ⟨_,0,none⟩ 1 x [.slice p1 x.vals.length q1,.slice p2 x.lin.length q2] rfl ?c1 ?c2 ?c3 ?c4 ?c5 ?_)
       case c1 =>
            have hs:=old_avoid (Below.alloc hbw2 hbw2.size (.cells #[.slice p1 x.vals.length q1,.slice p2 x.lin.length q2] 70)) (HO2.out.ext ((Ext.refl _).alloc _))
            exact⟨_,_,rfl,S1.out.ext hs,S2.out.ext hs⟩
       case c2=>exact cells_new _ [.slice p1 x.vals.length q1,.slice p2 x.lin.length q2] _
       case c3=>rw [hxs];unfold maxLen;omega
       case c4=>rw [hxs];omega
       case c5=>have:=hbw2.size;(try simp at this);simp;omega
       intro g cap w3 hown3 hgr _
       go_wp2_with fail
       go_roundg ((la.length - p)+(lb.length - q) - 1)
       case measure=>omega
       case rel =>
            refine⟨p+1,q,by omega,by omega,by omega,by go_num,rfl,⟨xs ++ [x],by simp;omega,hown3,by rw [←HX.out,HM.out];simp⟩,?_⟩
            exact Below.grown (Below.alloc hbw2 hbw2.size _) hgr (by have:=hbw2.size;(try simp at this);simp;omega) (fun j hj=>(HO2.out.lt j hj).1))
     ·have hm:=hmR hc
      have hb:decide (cmpRow y x<0)=true:=by have:=ord_row.anti x y;simp;omega
      have HM:=Lib.hid hm
      have HB:=Lib.hid hb
      clear hm hmL hmR hc hb
      have hxr:=Gro.refl wr
      go_wp2_with fail
      go_region_held3 (fun w'=>Gro wr w'∧w'.cell? ⟨b1,o1+p*2,none⟩=some (.slice p1 x.vals.length q1)∧w'.cell? ⟨b1,o1+p*2+1,none⟩=some (.slice p2 x.lin.length q2)∧w'.cell? ⟨b2,o2+q*2,none⟩=some (.slice p3 y.vals.length q3)∧w'.cell? ⟨b2,o2+q*2+1,none⟩=some (.slice p4 y.lin.length q4))
       (first |exact⟨hxr.drew,c1,c2,d1,d2⟩ | assumption | exact keepG4 (by assumption) hx2)
       (first |(go_at_call 143;refine(ref_less _ _ _ _ y x _ (by exact T1.out.ext ((hsv).trans (And.left ‹Gro wr _∧_›).ext.full)) (by exact S1.out.ext ((hsv).trans (And.left ‹Gro wr _∧_›).ext.full)) (by exact T2.out.ext ((hsv).trans (And.left ‹Gro wr _∧_›).ext.full)) (by exact S2.out.ext ((hsv).trans (And.left ‹Gro wr _∧_›).ext.full))).mono ?_;rintro e w2 ⟨rfl,hx2⟩))
      all_goals (obtain⟨hfin,_⟩:= ‹Gro wr _∧_›)
      all_goals clear hxr
      all_goals clear c1 c2
      all_goals rw [HB.out]
      all_goals (
       replace d1:=hfin.at d1
       replace d2:=hfin.at d2
       have HO2:=Lib.hid (HO.out.ext hfin.ext)
       have hbw2:=Below.trans hbw (hfin.ext.mono hbw.size)
       clear hfin
       go_wp2_with (at_builtin;refine wpList_append_one Rep.row (fun k=>k<wB.heap.size) rfl _ _ 52 rfl wB.heap.size 70 i0 _ 48 Tryz.underlying52 hi hz0 hz1 hz2 rfl (by decide) _ xs rfl (HO2.out.ext ((Ext.refl _).alloc _)) ⟨_,0,none⟩ 1 y [.slice p3 y.vals.length q3,.slice p4 y.lin.length q4] rfl ?c1 ?c2 ?c3 ?c4 ?c5 ?_)
       case c1 =>
            have hs:=old_avoid (Below.alloc hbw2 hbw2.size (.cells #[.slice p3 y.vals.length q3,.slice p4 y.lin.length q4] 70)) (HO2.out.ext ((Ext.refl _).alloc _))
            exact⟨_,_,rfl,T1.out.ext hs,T2.out.ext hs⟩
       case c2=>exact cells_new _ [.slice p3 y.vals.length q3,.slice p4 y.lin.length q4] _
       case c3=>rw [hxs];unfold maxLen;omega
       case c4=>rw [hxs];omega
       case c5=>have:=hbw2.size;(try simp at this);simp;omega
       intro g cap w3 hown3 hgr _
       go_wp2_with fail
       go_roundg ((la.length - p)+(lb.length - q) - 1)
       case measure=>omega
       case rel =>
            refine⟨p,q+1,by omega,by omega,by omega,rfl,by go_num,⟨xs ++ [y],by simp;omega,hown3,by rw [←HX.out,HM.out];simp⟩,?_⟩
            exact Below.grown (Below.alloc hbw2 hbw2.size _) hgr (by have:=hbw2.size;(try simp at this);simp;omega) (fun j hj=>(HO2.out.lt j hj).1))
    ·obtain⟨b1,o1,rfl⟩:=hA3 (by decide) (by omega)
     obtain⟨u1,u2,c1,c2,s1,s2⟩:=row_at A0.out p hp
     replace c1:=(on_some.1 (below_sub hbw (fun _ h=>h) _ _ c1)).2
     replace c2:=(on_some.1 (below_sub hbw (fun _ h=>h) _ _ c2)).2
     have hm:=merge_left cmpRow la lb p q hp (fun h=>absurd h hq)
     have hql:q=lb.length:=by omega
     have hd1:decide ((p:Int)<(la.length:Int))=true:=by simp;omega
     have hd2:((q:Int)==(lb.length:Int))=true:=by simp;omega
     have hd3:(p:Int)<(la.length:Int):=by omega
     generalize la[p]=x at s1 s2 hm
     have S1:=Lib.hid s1
     have S2:=Lib.hid s2
     obtain⟨p1,q1,rfl,_⟩:=s1.form
     obtain⟨p2,q2,rfl,_⟩:=s2.form
     clear s1 s2
     clear hql
     have HM:=Lib.hid hm
     clear hm
     go_wp2_with fail
     go_quiet (fail)
     all_goals (have hfin:=(Gro.refl wr).drewN nq)
     all_goals (
      replace c1:=hfin.at c1
      replace c2:=hfin.at c2
      have HO2:=Lib.hid (HO.out.ext hfin.ext)
      have hbw2:=Below.trans hbw (hfin.ext.mono hbw.size)
      clear hfin
      go_wp2_with (at_builtin;refine wpList_append_one Rep.row (fun k=>k<wB.heap.size) rfl _ _ 52 rfl wB.heap.size 70 i0 _ 48 Tryz.underlying52 hi hz0 hz1 hz2 rfl (by decide) _ xs rfl (HO2.out.ext ((Ext.refl _).alloc _)) ⟨_,0,none⟩ 1 x [.slice p1 x.vals.length q1,.slice p2 x.lin.length q2] rfl ?c1 ?c2 ?c3 ?c4 ?c5 ?_)
      case c1 =>
       have hs:=old_avoid (Below.alloc hbw2 hbw2.size (.cells #[.slice p1 x.vals.length q1,.slice p2 x.lin.length q2] 70)) (HO2.out.ext ((Ext.refl _).alloc _))
       exact⟨_,_,rfl,S1.out.ext hs,S2.out.ext hs⟩
      case c2=>exact cells_new _ [.slice p1 x.vals.length q1,.slice p2 x.lin.length q2] _
      case c3=>rw [hxs];unfold maxLen;omega
      case c4=>rw [hxs];omega
      case c5=>have:=hbw2.size;(try simp at this);simp;omega
      intro g cap w3 hown3 hgr _
      go_wp2_with fail
      go_roundg ((la.length - p)+(lb.length - q) - 1)
      case measure=>omega
      case rel =>
       refine⟨p+1,q,by omega,by omega,by omega,by go_num,rfl,⟨xs ++ [x],by simp;omega,hown3,by rw [←HX.out,HM.out];simp⟩,?_⟩
       exact Below.grown (Below.alloc hbw2 hbw2.size _) hgr (by have:=hbw2.size;(try simp at this);simp;omega) (fun j hj=>(HO2.out.lt j hj).1))
   ·by_cases hq:q<lb.length
    ·obtain⟨b2,o2,rfl⟩:=hB3 (by decide) (by omega)
     obtain⟨v1,v2,d1,d2,t1,t2⟩:=row_at B0.out q hq
     replace d1:=(on_some.1 (below_sub hbw (fun _ h=>h) _ _ d1)).2
     replace d2:=(on_some.1 (below_sub hbw (fun _ h=>h) _ _ d2)).2
     have hm:=merge_right cmpRow la lb p q hq (fun h=>absurd h hp)
     have hd1:decide ((p:Int)<(la.length:Int))=false:=by simp;omega
     have hd5:decide ((q:Int)<(lb.length:Int))=true:=by simp;omega
     have hd2:((q:Int)==(lb.length:Int))=false:=by simp;omega
     have hd4:(q:Int)<(lb.length:Int):=by omega
     generalize lb[q]=y at t1 t2 hm
     have T1:=Lib.hid t1
     have T2:=Lib.hid t2
     obtain⟨p3,q3,rfl,_⟩:=t1.form
     obtain⟨p4,q4,rfl,_⟩:=t2.form
     clear t1 t2
     have HM:=Lib.hid hm
     clear hm
     go_wp2_with fail
     go_quiet (fail)
     all_goals (have hfin:=(Gro.refl wr).drewN nq)
     all_goals (
      replace d1:=hfin.at d1
      replace d2:=hfin.at d2
      have HO2:=Lib.hid (HO.out.ext hfin.ext)
      have hbw2:=Below.trans hbw (hfin.ext.mono hbw.size)
      clear hfin
      go_wp2_with (at_builtin;refine wpList_append_one Rep.row (fun k=>k<wB.heap.size) rfl _ _ 52 rfl wB.heap.size 70 i0 _ 48 Tryz.underlying52 hi hz0 hz1 hz2 rfl (by decide) _ xs rfl (HO2.out.ext ((Ext.refl _).alloc _)) ⟨_,0,none⟩ 1 y [.slice p3 y.vals.length q3,.slice p4 y.lin.length q4] rfl ?c1 ?c2 ?c3 ?c4 ?c5 ?_)
      case c1 =>
       have hs:=old_avoid (Below.alloc hbw2 hbw2.size (.cells #[.slice p3 y.vals.length q3,.slice p4 y.lin.length q4] 70)) (HO2.out.ext ((Ext.refl _).alloc _))
       exact⟨_,_,rfl,T1.out.ext hs,T2.out.ext hs⟩
      case c2=>exact cells_new _ [.slice p3 y.vals.length q3,.slice p4 y.lin.length q4] _
      case c3=>rw [hxs];unfold maxLen;omega
      case c4=>rw [hxs];omega
      case c5=>have:=hbw2.size;(try simp at this);simp;omega
      intro g cap w3 hown3 hgr _
      go_wp2_with fail
      go_roundg ((la.length - p)+(lb.length - q) - 1)
      case measure=>omega
      case rel =>
       refine⟨p,q+1,by omega,by omega,by omega,rfl,by go_num,⟨xs ++ [y],by simp;omega,hown3,by rw [←HX.out,HM.out];simp⟩,?_⟩
       exact Below.grown (Below.alloc hbw2 hbw2.size _) hgr (by have:=hbw2.size;(try simp at this);simp;omega) (fun j hj=>(HO2.out.lt j hj).1))
    ·have hd1:decide ((p:Int)<(la.length:Int))=false:=by simp;omega
     have hd5:decide ((q:Int)<(lb.length:Int))=false:=by simp;omega
     have hfn:xs=sortBy cmpRow l:=by
      have e1:la.drop p = []:=List.drop_eq_nil_of_le (by omega)
      have e2:lb.drop q = []:=List.drop_eq_nil_of_le (by omega)
      rw [←HX.out,e1,e2]
      simp [mergeBy]
     have HN:=Lib.hid hfn
     clear hfn
     go_wp2_with fail
     go_ret
     exact⟨_,rfl,by rw [←HN.out];exact HO.out.slice,Ext.trans hx0 (hbw.mono (Nat.le_refl _))⟩
theorem ref_sort (n:Nat) : ∀(l:List Row),l.length≤n→ ∀(v:Value) (w:World),l.length≤1048576→SliceOf Rep.row w.cell? v l→Calls Tryz.prog 88 #[v] w fun e w'=> ∃v',e = .returned v'∧SliceOf Rep.row w'.cell? v' (sortBy cmpRow l)∧Ext w w':=by
 induction n with
 |zero=>exact fun l hl v w hf hv=>ref_sort_step l hf (fun l' _ _ _ h=>by omega) v w hv
 |succ n ih=>exact fun l hl v w hf hv=>ref_sort_step l hf (fun l' v' w' hv' h=>ih l' (by omega) v' w' (by omega) hv') v w hv
end Go.Proofs.YtkddkbpoefidpaaGreatDoor
namespace Go.Proofs
open Go.Shelf
def Tryz.growInt_ren:Go.Shelf.Ren:=⟨fun | 4=>146 | n=>n,fun | 22=>24 | 25=>3 | 3=>3 | 4=>4 | 9=>9 | 20=>20 | 0=>0 | n=>n,fun | n=>n⟩
theorem Tryz.growInt:Go.Proofs.Lays8.n4 Tryz.prog Tryz.growInt_ren:= {
 mixed:=by kernel_rfl
 f4:=⟨Tryz.f146.name,by decide,Tryz.func146.trans (congrArg some (by kernel_rfl))⟩
 t0:=Tryz.underlying0
 a0:=Tryz.isAgg0
 z0:=Tryz.sizeOf0
 v0:=Tryz.zeroValue0
 t3:=Tryz.underlying3
 a3:=Tryz.isAgg3
 z3:=Tryz.sizeOf3
 v3:=Tryz.zeroValue3
 t4:=Tryz.underlying4
 a4:=Tryz.isAgg4
 z4:=Tryz.sizeOf4
 v4:=Tryz.zeroValue4
 t9:=Tryz.underlying9
 a9:=Tryz.isAgg9
 z9:=Tryz.sizeOf9
 v9:=Tryz.zeroValue9
 t20:=Tryz.underlying20
 a20:=Tryz.isAgg20
 z20:=Tryz.sizeOf20
 v20:=Tryz.zeroValue20
 t22:=Tryz.underlying24
 a22:=Tryz.isAgg24
 z22:=Tryz.sizeOf24
 v22:=Tryz.zeroValue24 }
end Go.Proofs
namespace Go.Proofs.YtkddkbpoefidpaaGreatDoor
open Go.RowKit
def mergeL (l l':List Int):List Int:=Lib.compact ((l++l').mergeSort fun x y=>decide (x≤y))
theorem compactUpTo_law (d:Array Int) (hs : ∀i j,i≤j→j<d.size→d[i]! ≤d[j]!) (m:Nat) (hm:m≤d.size) :
  (Lib.compactUpTo d m).Pairwise (· < ·)∧ ∀x,x∈Lib.compactUpTo d m↔ ∃j,j<m∧d[j]! = x:=by
 induction m with
 |zero=>simp [Lib.compactUpTo]
 |succ m ih =>
  obtain⟨h1,h2⟩:=ih (by omega)
  rw [Lib.compactUpTo_succ]
  by_cases hk:Lib.keeps d m=true
  ·rw [if_pos hk]
   constructor
   ·rw [List.pairwise_append]
    refine⟨h1,by simp,fun a ha b hb=> ?_⟩
    rw [List.mem_singleton]at hb
    subst hb
    obtain⟨j,hj,rfl⟩:=(h2 a).1 ha
    have h3:=hs j (m - 1) (by omega) (by omega)
    have h4:=hs (m - 1) m (by omega) (by omega)
    have h5:d[m]! ≠d[m - 1]! := fun e=>by
     have:=Lib.keeps_neg (by omega) e
     rw [this]at hk
     cases hk
    omega
   ·intro x
    rw [List.mem_append,h2,List.mem_singleton]
    constructor
    ·rintro(⟨j,hj,e⟩ | e)
     ·exact⟨j,by omega,e⟩
     ·exact⟨m,by omega,e.symm⟩
    ·rintro⟨j,hj,e⟩
     by_cases hjm:j=m
     ·subst hjm;exact .inr e.symm
     ·exact .inl ⟨j,by omega,e⟩
  ·have hk':Lib.keeps d m=false:=by simpa using hk
   rw [if_neg hk,List.append_nil]
   refine⟨h1,fun x=> ?_⟩
   rw [h2]
   have hm0:0<m:=by
    rcases Nat.eq_zero_or_pos m with h | h
    ·subst h;simp [Lib.keeps]at hk'
    ·exact h
   have he:d[m]! = d[m - 1]! := Classical.byContradiction fun e=>by
    have:=Lib.keeps_pos (d:=d) (m:=m) e
    rw [this]at hk'
    cases hk'
   constructor
   ·rintro⟨j,hj,e⟩
    exact⟨j,by omega,e⟩
   ·rintro⟨j,hj,e⟩
    by_cases hjm:j=m
    ·subst hjm;exact⟨j - 1,by omega,by rw [←he];exact e⟩
    ·exact⟨j,by omega,e⟩
theorem compact_law (l:List Int) (hs:l.Pairwise (· ≤ ·)):(Lib.compact l).Pairwise (· < ·)∧ ∀x,x∈Lib.compact l↔x∈l:=by
 have h:=compactUpTo_law l.toArray (fun i j hij hj=>by
  have hj':j<l.length:=by simpa using hj
  rw [getElem!_pos l.toArray i (by simp;omega),getElem!_pos l.toArray j (by simpa using hj)]
  simp only [List.getElem_toArray]
  by_cases e:i=j
  ·subst e;exact Int.le_refl _
  ·exact List.pairwise_iff_getElem.1 hs i j (by omega) (by omega) (by omega)) l.length (by simp)
 refine⟨h.1,fun x=>(h.2 x).trans ?_⟩
 constructor
 ·rintro⟨j,hj,e⟩
  rw [getElem!_pos l.toArray j (by simpa using hj)]at e
  subst e
  simp
 ·intro hx
  obtain⟨j,hj,e⟩:=List.getElem_of_mem hx
  exact⟨j,hj,by rw [getElem!_pos l.toArray j (by simpa using hj)];simpa using e⟩
theorem mergeL_law (l l':List Int):(mergeL l l').Pairwise (· < ·)∧ ∀x,x∈mergeL l l'↔x∈l∨x∈l':=by
 have hs:((l++l').mergeSort fun x y=>decide (x≤y)).Pairwise (· ≤ ·):=by
  have:=List.pairwise_mergeSort (le:=fun x y:Int=>decide (x≤y)) (fun a b c h1 h2=>by simp only [decide_eq_true_eq]at *;omega) (fun a b=>by simp only [Bool.or_eq_true,decide_eq_true_eq];omega) (l++l')
  exact this.imp (by simp)
 obtain⟨h1,h2⟩:=compact_law _ hs
 refine⟨h1,fun x=>(h2 x).trans ?_⟩
 rw [(List.mergeSort_perm _ _).mem_iff,List.mem_append]
theorem asc_unique {l l':List Int} (h:l.Pairwise (· < ·)) (h':l'.Pairwise (· < ·)) (he : ∀x,x∈l↔x∈l'):l=l':=by
 refine List.Perm.eq_of_pairwise (le:=(· < ·)) (fun a b _ _ h1 h2=>by omega) h h' ?_
 exact(List.perm_ext_iff_of_nodup (h.imp fun h=>by omega) (h'.imp fun h=>by omega)).2 he
def inR (l:List Int):Prop:= ∀x∈l,-9223372036854775808≤x∧x≤9223372036854775807
theorem repAll_ints {h:View} {css:List (List Value)} {xs:List Int} (k:RepAll Rep.int h css xs):css.flatten=xs.map (Value.int .i64)∧inR xs:=by
 induction css generalizing xs with
 |nil=>cases xs with
  |nil=>exact⟨rfl,fun x hx=>by cases hx⟩
  |cons x xs=>exact k.elim
 |cons c css ih=>cases xs with
  |nil=>exact k.elim
  |cons x xs =>
   obtain⟨⟨rfl,h1⟩,h2⟩:=k
   obtain⟨h3,h4⟩:=ih h2
   refine⟨by simp [h3],fun y hy=> ?_⟩
   rcases List.mem_cons.1 hy with rfl | hy
   ·exact h1
   ·exact h4 y hy
theorem ints_repAll (h:View) (xs:List Int) (k:inR xs):RepAll Rep.int h (xs.map fun x=> [.int .i64 x]) xs:=by
 induction xs with
 |nil=>trivial
 |cons x xs ih=>exact⟨⟨rfl,k x (by simp)⟩,ih fun y hy=>k y (by simp [hy])⟩
theorem flat_ints (xs:List Int):(xs.map fun x=> [Value.int .i64 x]).flatten=xs.map (Value.int .i64):=by
 induction xs with
 |nil=>rfl
 |cons x xs ih=>simp [ih]
theorem OwnOf.ints {w:World} {S:Nat→Prop} {base:Nat} {e:TypeId} {v:Value} {xs:List Int} (h:OwnOf Rep.int w S base e v xs):w.ownsRow base e 1 v xs.length (xs.map (Value.int .i64))∧inR xs:=by
 obtain⟨css,h1,h2⟩:=h
 obtain⟨h3,h4⟩:=repAll_ints h1
 exact⟨by rw [←h3];exact h2,h4⟩
theorem OwnOf.ofInts {w:World} (S:Nat→Prop) {base:Nat} {e:TypeId} {v:Value} {xs:List Int} (h:w.ownsRow base e 1 v xs.length (xs.map (Value.int .i64))) (hr:inR xs):OwnOf Rep.int w S base e v xs :=
 ⟨_,ints_repAll _ _ hr,by rw [flat_ints];exact h⟩
theorem SliceOf.ints {h:View} {v:Value} {xs:List Int} (k:SliceOf Rep.int h v xs):inR xs:=by
 obtain⟨css,h1,_⟩:=k
 exact(repAll_ints h1).2
theorem grow_ints (S:Nat→Prop) (n:Nat) (w:World) (hn:n≤1099511627776):Calls Tryz.prog 146 #[.slice none 0 0,.int .i64 n] w fun e w'=> ∃v',e = .returned v'∧OwnOf Rep.int w' S w.heap.size 3 v' []∧Ext w w':=by
 obtain⟨i0,hi,hz0,hz1,hz2⟩:=info_parts info_ints
 by_cases h0:n=0
 ·subst h0
  refine(Any8.slices_Grow_room Tryz.growInt none 0 0 0 w (Nat.le_refl _) (by omega) (by omega) (by omega)).mono ?_
  rintro e w' ⟨rfl,rfl⟩
  exact⟨_,rfl,OwnOf.nil _ _ _ _ _,Ext.refl _⟩
 ·refine(Any8.slices_Grow_grow Tryz.growInt i0 _ hi hz0 (by rw [hz1];decide) none 0 0 n [] w (Nat.le_refl _) (by omega) (by rw [hz2];omega) (by omega) (by simp) (fun _=>rfl) (fun a h=>by cases h)).mono ?_
  rintro e w' ⟨rfl,rfl⟩
  have hg:=grownCap_ge w (0+n) 0 (Tryz.growInt_ren.t 25)
  have hg2:=grownCap_le_maxLen w (0+n) 0 (Tryz.growInt_ren.t 25) (by unfold maxLen;omega)
  refine⟨_,rfl,⟨[],trivial,?_⟩,(Ext.refl w).drew.alloc _⟩
  refine World.ownsRow_made w.drew _ _ (Nat.le_refl _) hg2 ?_
  generalize grownCap w (0+n) 0 (Tryz.growInt_ren.t 25)=cap at hg
  rw [show Rep.int.size=1 from rfl]
  simp [size_zeroCells,Value.cells]
  omega
theorem slice_at {α:Type} {R:Rep α} {w:View} {b o n cap:Nat} {xs:List (List α)} (h:SliceOf (Rep.slice R) w (.slice (some ⟨b,o,none⟩) n cap) xs) (i:Nat) (hi:i<xs.length) :
  ∃v,w ⟨b,o+i,none⟩=some v∧SliceOf R w v xs[i]:=by
 obtain⟨c,⟨v,rfl,h1⟩,h2⟩:=h.at i hi
 have:=h2 0 _ rfl
 rw [show (Rep.slice R).size=1 from rfl,Nat.mul_one,Nat.add_zero]at this
 exact⟨v,this,h1⟩
theorem flatten_take {α:Type} (ls:List (List α)) (k:Nat) (h:k<ls.length):(ls.take (k+1)).flatten=(ls.take k).flatten++ls[k]:=by
 rw [List.take_succ_eq_append_getElem h,List.flatten_append];simp only [List.flatten_cons,List.flatten_nil,List.append_nil]
theorem flatten_take_le {α:Type} (ls:List (List α)) (k:Nat):(ls.take k).flatten.length≤ls.flatten.length:=by
 have:ls.flatten=(ls.take k).flatten++(ls.drop k).flatten:=by rw [←List.flatten_append,List.take_append_drop]
 rw [this,List.length_append]
 omega
set_option maxHeartbeats 2000000 in
theorem concat_ints (v:Value) (ls:List (List Int)) (w:World) (hv:SliceOf (Rep.slice Rep.int) w.cell? v ls) (hbig:ls.flatten.length≤1099511627776) :
  Calls Tryz.prog 92 #[v] w fun e w'=> ∃v',e = .returned v'∧OwnOf Rep.int w' (fun _=>True) w.heap.size 3 v' ls.flatten∧Ext w w':=by
 obtain⟨i0,hi,hz0,hz1,hz2⟩:=info_parts info_ints
 obtain⟨pa,ca,rfl,ha1,ha2,ha3⟩:=hv.form
 have HV:=Lib.hid hv
 unfold maxLen at ha2
 go_enter Tryz.func92,Tryz.ntmps92
 go_wp2_with fail
 go_loopg [3,11] ls.length (fun gk n i wr=> ∃k m:Nat,k≤ls.length∧gk=ls.length - k∧i = .int .i64 k∧n = .int .i64 m∧m=(ls.take k).flatten.length∧w=wr)
 case atStart=>exact⟨0,0,by omega,rfl,rfl,rfl,by simp,rfl⟩
 case round =>
  obtain⟨k,m,hk,rfl,rfl,rfl,hm,rfl⟩:=hrel
  have hle:=flatten_take_le ls k
  by_cases hlt:k<ls.length
  ·obtain⟨ba,oa,rfl⟩:=ha3 (by decide) (by omega)
   obtain⟨u,c1,s1⟩:=slice_at hv k hlt
   have ht:=flatten_take ls k hlt
   have hle2:=flatten_take_le ls (k+1)
   obtain⟨p1,q1,rfl,hq1,hq2,_⟩:=s1.form
   have hml:(ls.take (k+1)).flatten.length=m+ls[k].length:=by rw [ht,List.length_append,hm]
   rw [hml]at hle2
   rw [←hm]at hle
   generalize ls[k].length=n1 at hml hle2 hq1 c1 s1
   have HL:=Lib.hid hml
   have HM:=Lib.hid hm
   unfold maxLen at hq2
   have hd:decide ((k:Int)<(ls.length:Int))=true:=by simp;omega
   have hd1:(k:Int)<(ls.length:Int):=by omega
   have hd2:decide ((m:Int)+(n1:Int)<0)=false:=by simp;omega
   clear s1 ht hml hm hv ha3
   go_wp2_with fail
   go_roundg (ls.length - (k+1))
   case measure=>omega
   case rel=>exact⟨k+1,m+n1,by omega,rfl,by go_num,by go_num,HL.out.symm,rfl⟩
  ·have:k=ls.length:=by omega
   subst this
   rw [List.take_length]at hm
   have hmb:m≤1099511627776:=by rw [hm];exact hbig
   clear hv hle hm
   have HB:=Lib.hid hbig
   clear hbig
   go_wp2_with fail
   refine(grow_ints (fun _=>True) m _ hmb).mono ?_
   rintro e w1 ⟨v1,rfl,hown,hx⟩
   have HO:=Lib.hid hown
   clear hown
   go_wp2_with fail
   go_loopg [6,27] ls.length (fun gk v i wr=> ∃k:Nat,k≤ls.length∧gk=ls.length - k∧i = .int .i64 k∧OwnOf Rep.int wr (fun _=>True) w.heap.size 3 v (ls.take k).flatten∧Ext w wr)
   case atStart=>exact⟨0,by omega,rfl,rfl,by simpa using HO.out,hx⟩
   case round =>
    clear HO hx
    obtain⟨k,hk,rfl,rfl,hown,hx⟩:=hrel
    by_cases hlt:k<ls.length
    ·obtain⟨ba,oa,rfl⟩:=ha3 (by decide) (by omega)
     obtain⟨u,c1,s1⟩:=slice_at HV.out k hlt
     have ht:=flatten_take ls k hlt
     have hle2:=flatten_take_le ls (k+1)
     have HO:=Lib.hid hown
     have hbg:=Nat.le_trans hle2 HB.out
     rw [ht,List.length_append]at hbg
     have hsub : ∀v',OwnOf Rep.int wr (fun _=>True) w.heap.size 3 v' (ls.take k).flatten→Sub w.cell? (on wr (avoid (fun _=>True) v')):=fun v' ho p u e=>by
      have hlt2:=World.block_lt_of_cell? w p e
      refine on_some.2 ⟨⟨fun he=> ?_,trivial⟩,hx.at e⟩
      have:=(ho.lt _ he.symm).1
      omega
     replace s1:=s1.ext (hsub _ hown)
     replace c1:=hx.at c1
     generalize ls[k]=x at s1 ht hbg
     have HT:=Lib.hid ht
     have HG:=Lib.hid hbg
     have S1:=Lib.hid s1
     obtain⟨p1,q1,rfl,hq1,hq2,_⟩:=s1.form
     have hd:decide ((k:Int)<(ls.length:Int))=true:=by simp;omega
     have hd1:(k:Int)<(ls.length:Int):=by omega
     clear s1 ht hbg hown ha3 hle2 hsub
     go_wp2_with (at_builtin;refine wpList_append_all Rep.int (fun _=>True) rfl _ _ 24 rfl w.heap.size 3 i0 _ 8 Tryz.underlying24 hi hz0 hz1 hz2 rfl (by decide) _ (ls.take k).flatten rfl HO.out _ x rfl S1.out ?c1 ?c2 ?c3 ?_)
     case c1=>have:=HG.out;unfold maxLen;omega
     case c2=>have:=HG.out;omega
     case c3=>exact hx.size
     intro v' w3 hown3 hgr _
     go_wp2_with fail
     go_roundg (ls.length - (k+1))
     case measure=>omega
     case rel=>exact⟨k+1,by omega,rfl,by go_num,by rw [HT.out];exact hown3,Below.grown hx hgr hx.size (fun j hj=>(HO.out.lt j hj).1)⟩
    ·have:k=ls.length:=by omega
     subst this
     rw [List.take_length]at hown
     have HO:=Lib.hid hown
     clear hown ha3
     go_wp2_with fail
     go_ret
     exact⟨_,rfl,HO.out,hx⟩
theorem sort_ints (S:Nat→Prop) (v:Value) (xs:List Int) (w:World) (base:Nat) (e:TypeId) (h:OwnOf Rep.int w S base e v xs) (hn:xs.length<4611686018427387904) :
  Calls Tryz.prog 93 #[v] w fun en w'=>en = .returned (.tuple #[])∧OwnOf Rep.int w' S base e v (xs.mergeSort fun x y=>decide (x≤y))∧w.grownBy w' v.ownBlock:=by
 obtain⟨h1,hr⟩:=h.ints
 by_cases hv:v = .slice none 0 0
 ·subst hv
  have hx:xs.length=0:=by
   rcases h1.2 with ⟨_,h0⟩ | ⟨_,_,_,h0,_⟩
   ·exact h0
   ·cases h0
  have hx:=List.eq_nil_of_length_eq_zero hx
  subst hx
  refine(Tryz.slices_Sort_int_none none 0 w).mono ?_
  rintro en w' ⟨rfl,rfl⟩
  exact⟨rfl,by simpa using h,⟨rfl,rfl,rfl,Nat.le_refl _,fun _ _ _=>rfl⟩⟩
 ·obtain⟨g,cap,rfl,g1,g2,g3,g4,_,hH⟩:=Lib.holds_of_ownsRow h1 hv
  refine(Tryz.slices_Sort_int g 0 cap xs w hH g2 hn).mono ?_
  rintro en w' ⟨rfl,n,os,rfl⟩
  have hp:=List.mergeSort_perm xs fun x y=>decide (x≤y)
  rcases h1.2 with ⟨h0,_⟩ | ⟨g',cap',cur,h0,hb,hg,hm1,hm2,hs,ht⟩
  ·cases h0
  ·injection h0 with e1 e2 e3
   injection e1 with e1
   injection e1 with e1
   subst e1 e3
   have:=ownsRow_sortedI (w:=w) (base:=base) (g:=g) (cap:=cap) (n:=n) (e:=e) (os:=os) (cur:=cur) (ss:=xs) (ts:=xs.mergeSort fun x y=>decide (x≤y)) hp.length_eq hb hg hm1 hm2 hs
   refine⟨rfl,?_,grownBy_sortedI _⟩
   rw [←hp.length_eq]at this ⊢
   exact OwnOf.ofInts S this fun x hx=>hr x (hp.mem_iff.1 hx)
theorem compact_ints (S:Nat→Prop) (v:Value) (xs:List Int) (w:World) (base:Nat) (e:TypeId) (h:OwnOf Rep.int w S base e v xs) :
  Calls Tryz.prog 94 #[v] w fun en w'=> ∃v',en = .returned v'∧OwnOf Rep.int w' S base e v' (Lib.compact xs)∧w.grownBy w' v.ownBlock:=by
 obtain⟨h1,hr⟩:=h.ints
 by_cases hv:v = .slice none 0 0
 ·subst hv
  have hx:xs.length=0:=by
   rcases h1.2 with ⟨_,h0⟩ | ⟨_,_,_,h0,_⟩
   ·exact h0
   ·cases h0
  have hx:=List.eq_nil_of_length_eq_zero hx
  subst hx
  refine(Tryz.slices_Compact_int_empty none 0 w).mono ?_
  rintro en w' ⟨rfl,rfl⟩
  exact⟨_,rfl,by simpa [Lib.compact,Lib.compactUpTo] using h,⟨rfl,rfl,rfl,Nat.le_refl _,fun _ _ _=>rfl⟩⟩
 ·obtain⟨g,cap,rfl,g1,g2,g3,g4,_,hH⟩:=Lib.holds_of_ownsRow h1 hv
  unfold maxLen at g4
  refine(Tryz.slices_Compact_int g 0 cap xs w hH (by omega) g3).mono ?_
  rintro en w' ⟨rfl,q,rfl⟩
  have hle:=Lib.compact_length_le xs
  have:=Lib.ownsRow_putRow (q:=q) (k:=(Lib.compact xs).length) (ys:=Lib.compact xs++List.replicate (xs.length - (Lib.compact xs).length) 0) h1 (by simp;omega) hle
  rw [List.take_left']at this
  ·refine⟨_,rfl,OwnOf.ofInts S this fun x hx=>hr x ?_,?_⟩
   ·have:x∈((Lib.compact xs)):=hx
    unfold Lib.compact Lib.compactUpTo at this
    rw [List.mem_map]at this
    obtain⟨j,hj,rfl⟩:=this
    have hj:=(List.mem_filter.1 hj).1
    rw [List.mem_range]at hj
    rw [getElem!_pos xs.toArray j (by simpa using hj)]
    simp
   ·refine⟨rfl,rfl,rfl,by simp [Sort.ahead],fun k hk hne=> ?_⟩
    have:g≠k:=fun e=>hne (by rw [e];rfl)
    simp [Sort.putRow,Sort.mapBlock,Sort.ahead,Array.getElem?_modify,this]
  ·rfl
set_option maxHeartbeats 1000000 in
theorem merge_lineage (va vb:Value) (l l':List Int) (w:World) (ha:SliceOf Rep.int w.cell? va l) (hb:SliceOf Rep.int w.cell? vb l') (hf:l.length≤1048576) (hf':l'.length≤1048576) :
  Calls Tryz.prog 40 #[va,vb] w fun e w'=> ∃v',e = .returned v'∧SliceOf Rep.int (on w' (since w)) v' (mergeL l l')∧Ext w w':=by
 have HA:=Lib.hid ha
 have HB:=Lib.hid hb
 obtain⟨pa,ca,rfl,_⟩:=ha.form
 obtain⟨pb,cb,rfl,_⟩:=hb.form
 clear ha hb
 go_enter Tryz.func40,Tryz.ntmps40
 go_wp2_with fail
 have hx:=(Ext.refl w).alloc (.cells #[.slice pa l.length ca,.slice pb l'.length cb] 24)
 refine(concat_ints _ [l,l'] _ ⟨[[.slice pa l.length ca],[.slice pb l'.length cb]],⟨⟨_,rfl,HA.out.ext hx.full⟩,⟨_,rfl,HB.out.ext hx.full⟩,trivial⟩,.inr ⟨_,2,rfl,by simp,by simp [maxLen],.inr ⟨_,0,rfl,fun j u hj=> ?_⟩⟩⟩ (by simp;omega)).mono ?_
 ·rw [World.cell?_alloc_at _ _ _ _ rfl]
  simpa using hj
 rintro e w1 ⟨v1,rfl,hown1,hx1⟩
 replace hx:=hx.trans hx1
 simp only [List.flatten_cons,List.flatten_nil,List.append_nil]at hown1
 replace hown1:=hown1.weak (base':=w.heap.size) (fun _ _ h=>h) (by simp)
 have hlen:(l++l').length<4611686018427387904:=by simp;omega
 have H1:=Lib.hid hown1
 clear hx1 hown1
 go_wp2_with fail
 refine(sort_ints _ _ _ _ _ _ H1.out hlen).mono ?_
 rintro e w2 ⟨rfl,hown2,hg2⟩
 have H2:=Lib.hid hown2
 have hx2:=Below.grown hx hg2 hx.size (fun k hk=>(H1.out.lt k hk).1)
 clear hown2 hg2 hx
 go_wp2_with fail
 refine(compact_ints _ _ _ _ _ _ H2.out).mono ?_
 rintro e w3 ⟨v3,rfl,hown3,hg3⟩
 have H3:=Lib.hid hown3
 have hx3:=Below.grown hx2 hg3 hx2.size (fun k hk=>(H2.out.lt k hk).1)
 clear hown3 hg3 hx2
 go_wp2_with fail
 go_ret
 exact⟨_,rfl,H3.out.fresh flat_int,hx3⟩
end Go.Proofs.YtkddkbpoefidpaaGreatDoor
namespace Go.Proofs.YtkddkbpoefidpaaGreatDoor
def AscOf (l xs:List Int):Prop:=l.Pairwise (· < ·)∧(∀x,x∈l↔x∈xs)∧l.length≤xs.length
theorem AscOf.nil:AscOf [] []:=⟨List.Pairwise.nil,by simp,by simp⟩
theorem AscOf.eq {l l':List Int} {xs:List Int} (h:AscOf l xs) (h':AscOf l' xs):l=l':=asc_unique h.1 h'.1 fun x=>by rw [h.2.1,h'.2.1]
theorem AscOf.merge {l a b:List Int} (h:AscOf l (a++b)):l=mergeL a b :=
 asc_unique h.1 (mergeL_law a b).1 fun x=>by rw [h.2.1,(mergeL_law a b).2,List.mem_append]
theorem AscOf.ins {l xs:List Int} (h:AscOf l xs) (x:Int) (k:Nat) (hk:k≤l.length) (h1 : ∀(j:Nat) (hj:j<l.length),j<k→l[j]<x) (h2 : ∀(hj:k<l.length),x<l[k]) :
  AscOf (l.take k ++ [x]++l.drop k) (xs ++ [x]):=by
 obtain⟨hs,hm,hl⟩:=h
 have hlo : ∀y∈l.take k,y<x:=by
  intro y hy
  obtain⟨j,hj,rfl⟩:=List.mem_iff_getElem.1 hy
  rw [List.getElem_take]
  simp at hj
  exact h1 j (by omega) (by omega)
 have hhi : ∀y∈l.drop k,x<y:=by
  intro y hy
  obtain⟨j,hj,rfl⟩:=List.mem_iff_getElem.1 hy
  rw [List.getElem_drop]
  simp at hj
  have hk':k<l.length:=by omega
  have h3:=h2 hk'
  by_cases h0:j=0
  ·subst h0;exact h3
  ·have:=List.pairwise_iff_getElem.1 hs k (k+j) hk' (by omega) (by omega)
   omega
 refine⟨?_,fun y=> ?_,by simp;omega⟩
 ·rw [List.pairwise_append,List.pairwise_append]
  refine⟨⟨hs.take,List.pairwise_singleton _ _,fun y hy z hz=> ?_⟩,hs.drop,fun y hy z hz=> ?_⟩
  ·rw [List.mem_singleton.1 hz];exact hlo y hy
  ·rcases List.mem_append.1 hy with hy | hy
   ·exact Int.lt_trans (hlo y hy) (hhi z hz)
   ·rw [List.mem_singleton.1 hy];exact hhi z hz
 ·have:y∈l↔y∈l.take k∨y∈l.drop k:=by rw [←List.mem_append,List.take_append_drop]
  rw [List.mem_append,List.mem_append,List.mem_append,←hm y,this,List.mem_singleton]
  constructor
  ·rintro((h | h) | h)
   ·exact .inl (.inl h)
   ·exact .inr h
   ·exact .inl (.inr h)
  ·rintro((h | h) | h)
   ·exact .inl (.inl h)
   ·exact .inr h
   ·exact .inl (.inr h)
theorem AscOf.old {l xs:List Int} (h:AscOf l xs) (x:Int) (k:Nat) (hk:k<l.length) (hx:l[k]=x):AscOf l (xs ++ [x]):=by
 obtain⟨hs,hm,hl⟩:=h
 refine⟨hs,fun y=> ?_,by simp;omega⟩
 rw [List.mem_append,←hm y,List.mem_singleton]
 constructor
 ·exact fun h=> .inl h
 ·rintro(h | h)
  ·exact h
  ·rw [h,←hx];exact List.getElem_mem _
end Go.Proofs.YtkddkbpoefidpaaGreatDoor
namespace Go.Proofs.YtkddkbpoefidpaaGreatDoor
def validT (t:Tup):Bool:=validB t.from_ t.to_
def bnd (l:List Tup):List Int:=l.flatMap fun t=>if validT t=true then [t.from_,t.to_]else []
def chg1 (t:Tup) (x:Int):Int:=if validT t=true then(if t.from_=x then 1 else 0) - (if t.to_=x then 1 else 0)else 0
def chg:List Tup→Int→Int
 |[],_=>0
 |t::l,x=>chg1 t x+chg l x
def holdsAt (x:Int) (t:Tup):Bool:=validT t&&decide (t.from_≤x)&&decide (x<t.to_)
def cntAt (l:List Tup) (x:Int):Nat:=(l.filter (holdsAt x)).length
theorem bnd_append (a b:List Tup):bnd (a++b)=bnd a++bnd b:=by simp [bnd]
theorem bnd_len (l:List Tup):(bnd l).length≤2*l.length:=by
 induction l with
 |nil=>simp [bnd]
 |cons t l ih =>
  have:bnd (t::l)=(if validT t=true then [t.from_,t.to_]else [])++bnd l:=rfl
  rw [this,List.length_append,List.length_cons]
  split <;> simp <;> omega
def sumL:List Int→Int
 |[]=>0
 |x::l=>x+sumL l
structure StepI where
 from_:Int
 to_:Int
 n:Int
def addStep (out:List StepI) (s:StepI):List StepI :=
 match out.getLast? with
 |some p=>if p.n=s.n then out.dropLast ++ [⟨p.from_,s.to_,p.n⟩]else out ++ [s]
 |none=> [s]
def stepsOf (P:List Int) (f:Nat→Int):Nat→List StepI
 |0=> []
 |k+1=>addStep (stepsOf P f k) ⟨P[k]!,P[k+1]!,f k⟩
theorem addStep_nil (s:StepI):addStep [] s = [s]:=rfl
theorem asc_len {l xs:List Int} (h:l.Pairwise (· < ·)) (hs : ∀x∈l,x∈xs):l.length≤xs.length:=by
 induction l generalizing xs with
 |nil=>simp
 |cons x l ih =>
  have h':=List.pairwise_cons.1 h
  have:=ih (xs:=xs.erase x) h'.2 fun y hy=>by
   have h1:=h'.1 y hy
   exact(List.mem_erase_of_ne (by omega)).2 (hs y (by simp [hy]))
  rw [List.length_erase_of_mem (hs x (by simp))]at this
  have hx:0<xs.length:=List.length_pos_of_mem (hs x (by simp))
  simp only [List.length_cons]
  omega
def pts (l:List Tup):List Int:=mergeL (bnd l) []
theorem pts_law (l:List Tup):AscOf (pts l) (bnd l):=by
 obtain⟨h1,h2⟩:=mergeL_law (bnd l) []
 have hm : ∀x,x∈pts l↔x∈bnd l:=fun x=>by unfold pts;rw [h2];simp
 exact⟨h1,hm,asc_len h1 fun x hx=>(hm x).1 hx⟩
def depthOf (l:List Tup):List StepI:=stepsOf (pts l) (fun i=>cntAt l (pts l)[i]!) ((pts l).length - 1)
end Go.Proofs.YtkddkbpoefidpaaGreatDoor
namespace Go.Proofs.YtkddkbpoefidpaaGreatDoor
open Go.Shelf Go.Sort
structure Per where
 from_:Int
 to_:Int
def NormPer (s:List Per):Prop:=s.Pairwise (fun a b=>a.to_<b.from_)∧ ∀p∈s,p.from_<p.to_
def inPer (s:List Per) (x:Int):Prop:= ∃p∈s,p.from_≤x∧x<p.to_
theorem inPer_cons {p:Per} {s:List Per} {x:Int}:inPer (p::s) x↔(p.from_≤x∧x<p.to_)∨inPer s x:=by simp [inPer]
theorem inPer_append {a b:List Per} {x:Int}:inPer (a++b) x↔inPer a x∨inPer b x:=by
 simp only [inPer,List.mem_append]
 constructor
 ·rintro⟨p,h | h,h2⟩
  ·exact .inl ⟨p,h,h2⟩
  ·exact .inr ⟨p,h,h2⟩
 ·rintro(⟨p,h,h2⟩ | ⟨p,h,h2⟩)
  ·exact⟨p,.inl h,h2⟩
  ·exact⟨p,.inr h,h2⟩
theorem inPer_nil {x:Int} : ¬inPer [] x:=by simp [inPer]
theorem NormPer.tail {p:Per} {s:List Per} (h:NormPer (p::s)):NormPer s:=⟨(List.pairwise_cons.1 h.1).2,fun q hq=>h.2 q (by simp [hq])⟩
theorem NormPer.head {p:Per} {s:List Per} (h:NormPer (p::s)):p.from_<p.to_∧ ∀q∈s,p.to_<q.from_:=⟨h.2 p (by simp),(List.pairwise_cons.1 h.1).1⟩
theorem NormPer.cons {p:Per} {s:List Per} (h:NormPer s) (hp:p.from_<p.to_) (hs : ∀q∈s,p.to_<q.from_):NormPer (p::s) :=
 ⟨List.pairwise_cons.2 ⟨hs,h.1⟩,fun q hq=>(List.mem_cons.1 hq).elim (fun e=>e▸hp) (fun hq=>h.2 q hq)⟩
theorem norm_unique {s t:List Per} (hs:NormPer s) (ht:NormPer t) (h : ∀x,inPer s x↔inPer t x):s=t:=by
 induction s generalizing t with
 |nil =>
  cases t with
  |nil=>rfl
  |cons q t =>
   have:=(h q.from_).2 ⟨q,by simp,Int.le_refl _,ht.head.1⟩
   exact(inPer_nil this).elim
 |cons p s ih =>
  cases t with
  |nil =>
   have:=(h p.from_).1 ⟨p,by simp,Int.le_refl _,hs.head.1⟩
   exact(inPer_nil this).elim
  |cons q t =>
   have lo : ∀ {p:Per} {s:List Per} {x:Int},NormPer (p::s)→inPer (p::s) x→p.from_≤x:=by
    intro p s x h1 h2
    rcases inPer_cons.1 h2 with h2 | ⟨r,h3,h4⟩
    ·exact h2.1
    ·have:=h1.head.2 r h3
     have:=h1.head.1
     omega
   have gap : ∀ {p:Per} {s:List Per},NormPer (p::s)→ ¬inPer (p::s) p.to_:=by
    intro p s h1 h2
    rcases inPer_cons.1 h2 with h2 | ⟨r,h3,h4⟩
    ·omega
    ·have:=h1.head.2 r h3
     omega
   have a1:=lo ht ((h p.from_).1 ⟨p,by simp,Int.le_refl _,hs.head.1⟩)
   have a2:=lo hs ((h q.from_).2 ⟨q,by simp,Int.le_refl _,ht.head.1⟩)
   have a3 : ¬p.to_<q.to_:=fun hl=>gap hs ((h p.to_).2 ⟨q,by simp,by have:=hs.head.1;omega,hl⟩)
   have a4 : ¬q.to_<p.to_:=fun hl=>gap ht ((h q.to_).1 ⟨p,by simp,by have:=ht.head.1;omega,hl⟩)
   have e:p=q:=by
    obtain⟨p1,p2⟩:=p
    obtain⟨q1,q2⟩:=q
    simp only [Per.mk.injEq]at *
    omega
   subst e
   congr 1
   refine ih hs.tail ht.tail fun x=> ?_
   have key : ∀ {s:List Per},NormPer (p::s)→(inPer s x↔inPer (p::s) x∧p.to_≤x):=by
    intro s h1
    constructor
    ·intro h2
     obtain⟨r,h3,h4⟩:=h2
     exact⟨inPer_cons.2 (.inr ⟨r,h3,h4⟩),by have:=h1.head.2 r h3;omega⟩
    ·rintro⟨h2,h3⟩
     rcases inPer_cons.1 h2 with h2 | h2
     ·omega
     ·exact h2
   rw [key hs,key ht,h x]
def addPer (out:List Per) (p:Per):List Per :=
 match out.getLast? with
 |some q=>if p.from_≤q.to_ then out.dropLast ++ [⟨q.from_,max q.to_ p.to_⟩]else out ++ [p]
 |none=> [p]
def mergePer (l:List Per):List Per:=l.foldl addPer []
theorem addPer_law {out:List Per} {p:Per} (h:NormPer out) (hp:p.from_<p.to_) (hf : ∀q∈out,q.from_≤p.from_):NormPer (addPer out p)∧ ∀x,inPer (addPer out p) x↔inPer out x∨(p.from_≤x∧x<p.to_):=by
 unfold addPer
 rcases List.eq_nil_or_concat out with rfl | ⟨l,q,rfl⟩
 ·exact⟨⟨by simp,by simpa using hp⟩,fun x=>by simp [inPer]⟩
 ·simp only [List.concat_eq_append]at h hf ⊢
  rw [List.getLast?_append]
  simp only [List.getLast?_singleton,Option.some_or,List.dropLast_concat]
  obtain⟨h1,h2⟩:=h
  have h3:=List.pairwise_append.1 h1
  have hq:=h2 q (by simp)
  have hqf:=hf q (by simp)
  split
  ·refine⟨⟨?_,?_⟩,fun x=> ?_⟩
   ·refine List.pairwise_append.2 ⟨h3.1,List.pairwise_singleton _ _,fun a ha b hb=> ?_⟩
    rw [List.mem_singleton]at hb
    subst hb
    exact h3.2.2 a ha q (by simp)
   ·intro a ha
    rcases List.mem_append.1 ha with ha | ha
    ·exact h2 a (by simp [ha])
    ·rw [List.mem_singleton]at ha;subst ha;simp only;omega
   ·rw [inPer_append,inPer_append]
    have e1:inPer [⟨q.from_,max q.to_ p.to_⟩] x↔q.from_≤x∧x<max q.to_ p.to_:=by simp [inPer]
    have e2:inPer [q] x↔q.from_≤x∧x<q.to_:=by simp [inPer]
    rw [e1,e2,or_assoc]
    refine or_congr Iff.rfl ?_
    omega
  ·refine⟨⟨?_,?_⟩,fun x=> ?_⟩
   ·refine List.pairwise_append.2 ⟨h1,List.pairwise_singleton _ _,fun a ha b hb=> ?_⟩
    rw [List.mem_singleton]at hb
    subst hb
    rcases List.mem_append.1 ha with ha | ha
    ·have:=h3.2.2 a ha q (by simp)
     omega
    ·rw [List.mem_singleton]at ha;subst ha;omega
   ·intro a ha
    rcases List.mem_append.1 ha with ha | ha
    ·exact h2 a ha
    ·rw [List.mem_singleton]at ha;subst ha;exact hp
   ·rw [inPer_append]
    have e1:inPer [p] x↔p.from_≤x∧x<p.to_:=by simp [inPer]
    rw [e1]
def absorb:List Per→Per→Per×List Per
 |[],p=>(p,[])
 |q::s,p=>if q.from_≤p.to_ then absorb s ⟨min p.from_ q.from_,max p.to_ q.to_⟩else(p,q::s)
def insPer:List Per→Per→List Per
 |[],p=> [p]
 |q::s,p=>if q.to_<p.from_ then q::insPer s p else(absorb (q::s) p).1::(absorb (q::s) p).2
theorem absorb_len (s:List Per) (p:Per):(absorb s p).2.length≤s.length:=by
 induction s generalizing p with
 |nil=>simp [absorb]
 |cons q s ih =>
  unfold absorb
  split
  ·have:=ih ⟨min p.from_ q.from_,max p.to_ q.to_⟩
   simp only [List.length_cons]
   omega
  ·simp
theorem insPer_len (s:List Per) (p:Per):(insPer s p).length≤s.length+1:=by
 induction s with
 |nil=>simp [insPer]
 |cons q s ih =>
  unfold insPer
  split
  ·simp only [List.length_cons];omega
  ·have:=absorb_len (q::s) p
   simp only [List.length_cons]at *
   omega
theorem absorb_law {s:List Per} {p:Per} (h:NormPer s) (hp:p.from_<p.to_) (ht : ∀q∈s,p.from_≤q.to_) :
  NormPer ((absorb s p).1::(absorb s p).2)∧(∀x,inPer ((absorb s p).1::(absorb s p).2) x↔inPer s x∨(p.from_≤x∧x<p.to_))∧ ∀L:Int,L<p.from_→(∀q∈s,L<q.from_)→ ∀q∈(absorb s p).1::(absorb s p).2,L<q.from_:=by
 induction s generalizing p with
 |nil=>exact⟨⟨by simp [absorb],by simpa [absorb] using hp⟩,fun x=>by simp [absorb,inPer],fun L h1 _=>by simpa [absorb] using h1⟩
 |cons q s ih =>
  have hq:=h.head
  have htq:=ht q (by simp)
  unfold absorb
  split
  ·obtain⟨g1,g2,g3⟩:=ih (p:=⟨min p.from_ q.from_,max p.to_ q.to_⟩) h.tail (by simp only;omega) fun r hr=>by
    have:=hq.2 r hr
    have:=h.2 r (by simp [hr])
    simp only
    omega
   refine⟨g1,fun x=> ?_,fun L h1 h2=>g3 L (by have:=h2 q (by simp);simp only;omega) fun r hr=>h2 r (by simp [hr])⟩
   rw [g2,inPer_cons]
   simp only
   have e:(min p.from_ q.from_≤x∧x<max p.to_ q.to_)↔(q.from_≤x∧x<q.to_)∨(p.from_≤x∧x<p.to_):=by omega
   rw [e]
   constructor
   ·rintro(k | k | k)
    ·exact .inl (.inr k)
    ·exact .inl (.inl k)
    ·exact .inr k
   ·rintro((k | k) | k)
    ·exact .inr (.inl k)
    ·exact .inl k
    ·exact .inr (.inr k)
  ·refine⟨NormPer.cons h hp fun r hr=> ?_,fun x=> ?_,fun L h1 h2 r hr=> ?_⟩
   ·rcases List.mem_cons.1 hr with rfl | hr
    ·simp only;omega
    ·have:=hq.2 r hr
     simp only
     omega
   ·rw [inPer_cons]
    exact or_comm
   ·rcases List.mem_cons.1 hr with rfl | hr
    ·exact h1
    ·exact h2 r hr
theorem insPer_law {s:List Per} {p:Per} (h:NormPer s) (hp:p.from_<p.to_) :
  NormPer (insPer s p)∧(∀x,inPer (insPer s p) x↔inPer s x∨(p.from_≤x∧x<p.to_))∧ ∀L:Int,L<p.from_→(∀q∈s,L<q.from_)→ ∀q∈insPer s p,L<q.from_:=by
 induction s with
 |nil=>exact⟨⟨by simp [insPer],by simpa [insPer] using hp⟩,fun x=>by simp [insPer,inPer],fun L h1 _=>by simpa [insPer] using h1⟩
 |cons q s ih =>
  have hq:=h.head
  unfold insPer
  split
  ·rename_i hl
   obtain⟨g1,g2,g3⟩:=ih h.tail
   refine⟨NormPer.cons g1 hq.1 (g3 q.to_ hl hq.2),fun x=> ?_,fun L h1 h2 r hr=> ?_⟩
   ·rw [inPer_cons,inPer_cons,g2,or_assoc]
   ·rcases List.mem_cons.1 hr with rfl | hr
    ·exact h2 _ (by simp)
    ·exact g3 L h1 (fun t ht=>h2 t (by simp [ht])) r hr
  ·refine absorb_law h hp fun r hr=> ?_
   rcases List.mem_cons.1 hr with rfl | hr
   ·omega
   ·have:=hq.2 r hr
    have:=h.2 r (by simp [hr])
    omega
def refNorm (l:List Per):List Per:=(l.filter fun p=>validB p.from_ p.to_).foldl insPer []
theorem refNorm_snoc (l:List Per) (p:Per):refNorm (l ++ [p])=if validB p.from_ p.to_=true then insPer (refNorm l) p else refNorm l:=by
 unfold refNorm
 rw [List.filter_append,List.foldl_append]
 by_cases h:validB p.from_ p.to_=true
 ·simp [h]
 ·simp [h]
theorem refNorm_len (l:List Per):(refNorm l).length≤l.length:=by
 have key : ∀(l:List Per) (out:List Per),(l.foldl insPer out).length≤out.length+l.length:=by
  intro l
  induction l with
  |nil=>intro out;simp
  |cons p l ih=>intro out;have:=ih (insPer out p);have:=insPer_len out p;simp only [List.foldl_cons,List.length_cons];omega
 have:=key (l.filter fun p=>validB p.from_ p.to_) []
 have:=List.length_filter_le (fun p:Per=>validB p.from_ p.to_) l
 unfold refNorm
 simp at *
 omega
theorem refNorm_law (l:List Per):NormPer (refNorm l)∧ ∀x,inPer (refNorm l) x↔inPer (l.filter fun p=>validB p.from_ p.to_) x:=by
 have key : ∀(l:List Per) (out:List Per),NormPer out→(∀p∈l,p.from_<p.to_)→NormPer (l.foldl insPer out)∧ ∀x,inPer (l.foldl insPer out) x↔inPer out x∨inPer l x:=by
  intro l
  induction l with
  |nil=>intro out h _;exact⟨h,fun x=>by simp [inPer]⟩
  |cons p l ih =>
   intro out h hv
   obtain⟨g1,g2,_⟩:=insPer_law h (hv p (by simp))
   obtain⟨k1,k2⟩:=ih (insPer out p) g1 fun q hq=>hv q (by simp [hq])
   refine⟨k1,fun x=> ?_⟩
   rw [List.foldl_cons,k2,g2,inPer_cons,or_assoc]
 obtain⟨h1,h2⟩:=key (l.filter fun p=>validB p.from_ p.to_) [] ⟨List.Pairwise.nil,by simp⟩ fun p hp=>(validB_lt (List.mem_filter.1 hp).2).2.1
 exact⟨h1,fun x=>by rw [refNorm,h2];simp [inPer]⟩
end Go.Proofs.YtkddkbpoefidpaaGreatDoor
namespace Go.Proofs.YtkddkbpoefidpaaGreatDoor
def sumN (g:Nat→Int):Nat→Int
 |0=>0
 |k+1=>sumN g k+g k
def dP (P:List Int) (i:Nat):Int:=P[i+1]! - P[i]!
theorem asc_at {P:List Int} (hP:P.Pairwise (· < ·)) {i j:Nat} (hij:i<j) (hj:j<P.length):P[i]! < P[j]! := by
 rw [getElem!_pos P i (by omega),getElem!_pos P j hj]
 exact List.pairwise_iff_getElem.1 hP i j (by omega) hj hij
theorem gap {P:List Int} (hP:P.Pairwise (· < ·)) {y:Int} (hy:y∈P) {k:Nat} (hk:k+1<P.length) (h:P[k]! < y):P[k+1]! ≤y:=by
 obtain⟨j,hj,rfl⟩:=List.getElem_of_mem hy
 have h1:P[j]=P[j]! := (getElem!_pos P j hj).symm
 rw [h1]at h ⊢
 by_cases e:j≤k
 ·rcases Nat.lt_or_eq_of_le e with e | e
  ·have:=asc_at hP e (by omega);omega
  ·subst e;omega
 ·by_cases e2:j=k+1
  ·subst e2;omega
  ·have:=asc_at hP (show k+1<j by omega) hj;omega
theorem first_le {P:List Int} (hP:P.Pairwise (· < ·)) {x:Int} (hx:x∈P):P[0]! ≤x:=by
 obtain⟨j,hj,rfl⟩:=List.getElem_of_mem hx
 rw [show P[j]=P[j]! from (getElem!_pos P j hj).symm]
 rcases Nat.eq_zero_or_pos j with e | e
 ·subst e;omega
 ·have:=asc_at hP e hj;omega
theorem le_last {P:List Int} (hP:P.Pairwise (· < ·)) {x:Int} (hx:x∈P):x≤P[P.length - 1]! := by
 obtain⟨j,hj,rfl⟩:=List.getElem_of_mem hx
 rw [show P[j]=P[j]! from (getElem!_pos P j hj).symm]
 by_cases e:j=P.length - 1
 ·subst e;omega
 ·have:=asc_at hP (show j<P.length - 1 by omega) (by omega);omega
def ind (b:Bool):Int:=if b=true then 1 else 0
def inI (x y z:Int):Bool:=decide (x≤z)&&decide (z<y)
def lens:List Tup→Int
 |[]=>0
 |t::l=>(t.to_ - t.from_)+lens l
def area:List StepI→Int
 |[]=>0
 |s::l=>(s.to_ - s.from_)*s.n+area l
def cov:List StepI→Int
 |[]=>0
 |s::l=>(if 0<s.n then s.to_ - s.from_ else 0)+cov l
def StepRuns (d:List StepI):Prop:=(∀s∈d,s.from_<s.to_)∧ ∀i (h:i+1<d.length),d[i].to_=d[i+1].from_∧d[i].n≠d[i+1].n
def perLen:List Per→Int
 |[]=>0
 |p::s=>(p.to_ - p.from_)+perLen s
def Ends (L:List Int) (s:List Per):Prop:= ∀p∈s,p.from_∈L∧p.to_∈L
def tupPer (t:Tup):Per:=⟨t.from_,t.to_⟩
end Go.Proofs.YtkddkbpoefidpaaGreatDoor
namespace Go.Proofs.YtkddkbpoefidpaaGreatDoor
def hE (t:Int) (e:Ev):Bool:=validB e.from_ e.to_&&decide (e.from_≤t)&&decide (t<e.to_)
def inP (t:Int) (p:Pair):Bool:=decide (p.from_≤t)&&decide (t<p.to_)
def valAt (t:Int) (l:List StepI):Int:=l.foldl (fun d s=>if s.from_≤t∧t<s.to_ then s.n else d) 0
theorem hold_between {P:List Int} (hP:P.Pairwise (· < ·)) {i:Nat} (hi:i+1<P.length) {t:Int} (h1:P[i]! ≤t) (h2:t<P[i+1]!) (l:List Tup) (hb : ∀x∈bnd l,x∈P) : ∀x∈l,holdsAt P[i]! x=holdsAt t x:=by
 intro x hx
 unfold holdsAt
 cases hv:validB x.from_ x.to_ with
 |false =>
  have:validT x=false:=hv
  simp [this]
 |true =>
  have hm : ∀z,z=x.from_∨z=x.to_→z∈P:=fun z hz=>hb z (by
   unfold bnd
   refine List.mem_flatMap.2 ⟨x,hx,?_⟩
   have:validT x=true:=hv
   rw [this,if_pos rfl]
   rcases hz with rfl | rfl <;> simp)
  have g1:=gap hP (hm x.from_ (.inl rfl)) hi
  have g2:=gap hP (hm x.to_ (.inr rfl)) hi
  have:validT x=true:=hv
  rw [this,Bool.true_and,Bool.true_and,Bool.eq_iff_iff]
  simp only [Bool.and_eq_true,decide_eq_true_eq]
  omega
theorem cnt_between {P:List Int} (hP:P.Pairwise (· < ·)) {i:Nat} (hi:i+1<P.length) {t:Int} (h1:P[i]! ≤t) (h2:t<P[i+1]!) (l:List Tup) (hb : ∀x∈bnd l,x∈P):cntAt l P[i]! = cntAt l t:=by
 unfold cntAt
 rw [List.filter_congr (hold_between hP hi h1 h2 l hb)]
theorem cnt_out {P:List Int} (hP:P.Pairwise (· < ·)) {t:Int} (l:List Tup) (hb : ∀x∈bnd l,x∈P) (h:t<P[0]! ∨P[P.length - 1]! ≤t):cntAt l t=0:=by
 unfold cntAt
 rw [List.length_eq_zero_iff,List.filter_eq_nil_iff]
 intro x hx hc
 unfold holdsAt at hc
 simp only [Bool.and_eq_true,decide_eq_true_eq]at hc
 have hv:validT x=true:=hc.1.1
 have hm : ∀z,z=x.from_∨z=x.to_→z∈P:=fun z hz=>hb z (by
  unfold bnd
  refine List.mem_flatMap.2 ⟨x,hx,?_⟩
  rw [hv,if_pos rfl]
  rcases hz with rfl | rfl <;> simp)
 have g1:=first_le hP (hm x.from_ (.inl rfl))
 have g2:=le_last hP (hm x.to_ (.inr rfl))
 omega
end Go.Proofs.YtkddkbpoefidpaaGreatDoor
