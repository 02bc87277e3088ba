/- joined texts of a proof: RefT -/
import Derived.Test.YtkddkbpoefidpaaGreatDoorKG03
import Derived.Test.YtkddkbpoefidpaaGreatDoorKG17
import Derived.Test.YtkddkbpoefidpaaGreatDoorKG14
namespace Go.Proofs.YtkddkbpoefidpaaGreatDoor
open Go.RowKit
theorem nil_avoidT (w:World) (T:Nat→Prop):Sub (on w T) (on w (avoid T (.slice none 0 0))):=on_mono w fun k _ h=>⟨by simp [Value.ownBlock],h⟩
theorem old_avoidT {α:Type} {R:Rep α} {W w':World} {S:Nat→Prop} {e:TypeId} {v:Value} {xs:List α} (hS : ∀k,S k→k<W.heap.size) (hb:Below W.heap.size W w') (hown:OwnOf R w' S W.heap.size e v xs) :
  Sub (on W S) (on w' (avoid S v)) :=
 (below_sub hb hS).trans (on_mono _ fun k _ hk=>⟨fun he=>by have h1:=(hown.lt k he.symm).1;have h2:=hS k hk;omega,hk⟩)
set_option maxRecDepth 100000 in
set_option maxHeartbeats 2000000 in
theorem ref_sortT_step (T:Nat→Prop) (l:List Row) (hl:l.length≤1048576)
  (ih : ∀(l':List Row) (v:Value) (w:World),(∀k,w.heap.size≤k→T k)→SliceOf Rep.row (on w T) v l'→l'.length<l.length→Calls Tryz.prog 88 #[v] w fun e w'=> ∃v',e = .returned v'∧SliceOf Rep.row (on w' T) v' (sortBy cmpRow l')∧Ext w w')
  (v:Value) (w:World) (hT : ∀k,w.heap.size≤k→T k) (hv:SliceOf Rep.row (on w T) v l) :
  Calls Tryz.prog 88 #[v] w fun e w'=> ∃v',e = .returned v'∧SliceOf Rep.row (on w' T) v' (sortBy cmpRow l)∧Ext w w':=by
 have HT:=Lib.hid hT
 clear hT
 obtain⟨i0,hi,hz0,hz1,hz2⟩:=info_parts infoRow
 obtain⟨pa,ca,rfl,ha1,ha2,ha3⟩:=hv.form
 have HV:=Lib.hid hv
 unfold maxLen at ha2
 go_enter Tryz.func88,Tryz.ntmps88
 by_cases h2:l.length<2
 ·have hd:decide ((l.length:Int)<2)=true:=by simp;omega
  have hs:=sortBy_short cmpRow l h2
  have HS:=Lib.hid hs
  clear hv ha3 hs
  go_wp2_with (at_builtin;refine wpList_append_all Rep.row T rfl _ _ 52 rfl w.heap.size 70 i0 _ 48 Tryz.underlying52 hi hz0 hz1 hz2 rfl (by decide) _ [] rfl (OwnOf.nil _ _ _ _ _) _ l rfl (HV.out.ext (nil_avoidT w T)) ?c1 ?c2 ?c3 ?_)
  case c1=>simp [maxLen];omega
  case c2=>simp;omega
  case c3=>exact Nat.le_refl _
  intro v' w1 hown hgr _
  go_wp2_with fail
  go_ret
  exact⟨v',rfl,by rw [HS.out];simpa using hown.sliceIn (T:=T) (fun _ _ h=>h) HT.out,Below.grown (Ext.refl w) hgr (Nat.le_refl _) (fun k hk=>by simp [Value.ownBlock]at hk)⟩
 ·have hd:decide ((l.length:Int)<2)=false:=by simp;omega
  obtain⟨ba,oa,rfl⟩:=ha3 (by decide) (by omega)
  have h1:=HV.out.takeV (l.length / 2) (by omega)
  have h2:SliceOf Rep.row (on w T) (.slice (some ⟨ba,oa+l.length / 2*2,none⟩) (l.length - l.length / 2) (ca - l.length / 2)) (l.drop (l.length / 2)):=HV.out.dropV (l.length / 2) (by omega)
  have HS:=Lib.hid (sort_halves ord_row l (l.length / 2))
  have H1:=Lib.hid h1
  have H2:=Lib.hid h2
  have hl1:(l.take (l.length / 2)).length<l.length:=by simp;omega
  have hl2:(l.drop (l.length / 2)).length<l.length:=by simp;omega
  have hxr:=Ext.refl w
  generalize hm:l.length / 2=m at h1 h2 HS H1 H2 hl1 hl2
  have hq1:(l.length:Int).tdiv 2=(m:Int):=by rw [Int.tdiv_eq_ediv_of_nonneg (by omega)];omega
  have hq2:(l.length:Int) / 2=(m:Int):=by omega
  have hq3:IntKind.i64.wrap (m:Int)=(m:Int):=Go.IntWalk.i64_in _ (by omega)
  have hq4:IntKind.i64.wrap ((l.length:Int).tdiv 2)=(m:Int):=by rw [hq1,hq3]
  have hm1:(0:Int)≤(m:Int):=by omega
  have hm2:(m:Int)≤(l.length:Int):=by omega
  have hm3:(m:Int)≤(ca:Int):=by omega
  clear hv ha3 h1 h2 hm
  go_wp2_with fail
  go_region_held3 (fun w'=>Ext w w')
   (first |exact hxr.drew | assumption | exact Ext.trans (by assumption) hxA | exact Ext.trans (by assumption) hxB)
   (first |(go_at_call 88;refine(ih (l.take m) _ _ (fun k hk=>HT.out k (Nat.le_trans (‹Ext w _›).size hk)) (by with_reducible exact H1.out.ext ((‹Ext w _›).sub T)) hl1).mono ?_;rintro e wA ⟨vA,rfl,sA,hxA⟩) | (go_at_call 88;refine(ih (l.drop m) _ _ (fun k hk=>HT.out k (Nat.le_trans (‹Ext w _›).size hk)) (by with_reducible exact H2.out.ext ((‹Ext w _›).sub T)) hl2).mono ?_;rintro e wB ⟨vB,rfl,sB,hxB⟩))
  all_goals (first
   |(have tA:=sA.ext (hxB.sub T);have tB:=sB.ext (Sub.refl _))
   |(have tB:=sB.ext (hxA.sub T);have tA:=sA.ext (Sub.refl _)))
  all_goals (have hx0:= ‹Ext w _›)
  all_goals clear sA sB hxA hxB
  obtain⟨a1,k1,rfl,hA1,hA2,hA3⟩:=tA.form
  obtain⟨a2,k2,rfl,hB1,hB2,hB3⟩:=tB.form
  have hla:(sortBy cmpRow (l.take m)).length+(sortBy cmpRow (l.drop m)).length=l.length:=by rw [sortBy_length,sortBy_length];simp;omega
  generalize sortBy cmpRow (l.take m)=la at *
  generalize sortBy cmpRow (l.drop m)=lb at *
  have A0:=Lib.hid (tA.ext (on_mono _ (T:=fun k=>k<wB.heap.size∧T k) fun k hk h=>⟨hk,h⟩))
  have B0:=Lib.hid (tB.ext (on_mono _ (T:=fun k=>k<wB.heap.size∧T k) fun k hk h=>⟨hk,h⟩))
  unfold maxLen at hA2 hB2
  clear tA tB
  go_wp2_with fail
  go_loopg [5,6,7] (la.length+lb.length) (fun gk out i j wr=> ∃p q:Nat,p≤la.length∧q≤lb.length∧gk=(la.length - p)+(lb.length - q)∧i = .int .i64 p∧j = .int .i64 q∧(∃xs,xs.length=p+q∧OwnOf Rep.row wr (fun k=>k<wB.heap.size∧T k) wB.heap.size 70 out xs∧xs++mergeBy cmpRow (la.drop p) (lb.drop q)=sortBy cmpRow l)∧Below wB.heap.size wB wr)
  case atStart=>exact⟨0,0,by omega,by omega,by omega,rfl,rfl,⟨[],rfl,OwnOf.nil _ _ _ _ _,by simpa using HS.out⟩,Below.refl _ _⟩
  case round =>
   obtain⟨p,q,hpl,hql,rfl,rfl,rfl,⟨xs,hxs,hown,hxm⟩,hbw⟩:=hrel
   have HO:=Lib.hid hown
   have HX:=Lib.hid hxm
   clear hown hxm
   by_cases hp:p<la.length
   ·by_cases hq:q<lb.length
    ·obtain⟨b1,o1,rfl⟩:=hA3 (by decide) (by omega)
     obtain⟨u1,u2,c1,c2,s1,s2⟩:=row_at A0.out p hp
     replace c1:=(on_some.1 (below_sub hbw (fun _ h=>h.1) _ _ c1)).2
     replace c2:=(on_some.1 (below_sub hbw (fun _ h=>h.1) _ _ c2)).2
     obtain⟨b2,o2,rfl⟩:=hB3 (by decide) (by omega)
     obtain⟨v1,v2,d1,d2,t1,t2⟩:=row_at B0.out q hq
     replace d1:=(on_some.1 (below_sub hbw (fun _ h=>h.1) _ _ d1)).2
     replace d2:=(on_some.1 (below_sub hbw (fun _ h=>h.1) _ _ d2)).2
     have hmL:cmpRow la[p] lb[q]≤0→_:=fun h=>merge_left cmpRow la lb p q hp (fun _=>h)
     have hmR : ¬cmpRow la[p] lb[q]≤0→_:=fun h=>merge_right cmpRow la lb p q hq (fun _=>h)
     have hd1:decide ((p:Int)<(la.length:Int))=true:=by simp;omega
     have hd2:((q:Int)==(lb.length:Int))=false:=by simp;omega
     have hd3:(p:Int)<(la.length:Int):=by omega
     have hd4:(q:Int)<(lb.length:Int):=by omega
     have hsv:Sub (on wB (fun k=>k<wB.heap.size∧T k)) wr.cell?:=(below_sub hbw (fun _ h=>h.1)).trans (on_sub _ _)
     generalize la[p]=x at s1 s2 hmL hmR
     generalize lb[q]=y at t1 t2 hmL hmR
     have S1:=Lib.hid s1
     have S2:=Lib.hid s2
     obtain⟨p1,q1,rfl,_⟩:=s1.form
     obtain⟨p2,q2,rfl,_⟩:=s2.form
     clear s1 s2
     have T1:=Lib.hid t1
     have T2:=Lib.hid t2
     obtain⟨p3,q3,rfl,_⟩:=t1.form
     obtain⟨p4,q4,rfl,_⟩:=t2.form
     clear t1 t2
     by_cases hc:cmpRow x y≤0
     ·have hm:=hmL hc
      have hb:decide (cmpRow y x<0)=false:=by have:=ord_row.anti x y;simp;omega
      have HM:=Lib.hid hm
      have HB:=Lib.hid hb
      clear hm hmL hmR hc hb
      have hxr:=Gro.refl wr
      go_wp2_with fail
      go_region_held3 (fun w'=>Gro wr w'∧w'.cell? ⟨b1,o1+p*2,none⟩=some (.slice p1 x.vals.length q1)∧w'.cell? ⟨b1,o1+p*2+1,none⟩=some (.slice p2 x.lin.length q2)∧w'.cell? ⟨b2,o2+q*2,none⟩=some (.slice p3 y.vals.length q3)∧w'.cell? ⟨b2,o2+q*2+1,none⟩=some (.slice p4 y.lin.length q4))
       (first |exact⟨hxr.drew,c1,c2,d1,d2⟩ | assumption | exact keepG4 (by assumption) hx2)
       (first |(go_at_call 143;refine(ref_less _ _ _ _ y x _ (by exact T1.out.ext ((hsv).trans (And.left ‹Gro wr _∧_›).ext.full)) (by exact S1.out.ext ((hsv).trans (And.left ‹Gro wr _∧_›).ext.full)) (by exact T2.out.ext ((hsv).trans (And.left ‹Gro wr _∧_›).ext.full)) (by exact S2.out.ext ((hsv).trans (And.left ‹Gro wr _∧_›).ext.full))).mono ?_;rintro e w2 ⟨rfl,hx2⟩))
      all_goals (obtain⟨hfin,_⟩:= ‹Gro wr _∧_›)
      all_goals clear hxr
      all_goals clear d1 d2
      all_goals rw [HB.out]
      all_goals (
       replace c1:=hfin.at c1
       replace c2:=hfin.at c2
       have HO2:=Lib.hid (HO.out.ext hfin.ext)
       have hbw2:=Below.trans hbw (hfin.ext.mono hbw.size)
       clear hfin
       go_wp2_with (at_builtin;refine wpList_append_one Rep.row (fun k=>k<wB.heap.size∧T k) rfl _ _ 52 rfl wB.heap.size 70 i0 _ 48 Tryz.underlying52 hi hz0 hz1 hz2 rfl (by decide) _ xs rfl (HO2.out.ext ((Ext.refl _).alloc _)) ⟨_,0,none⟩ 1 x [.slice p1 x.vals.length q1,.slice p2 x.lin.length q2] rfl ?c1 ?c2 ?c3 ?c4 ?c5 ?_)
       case c1 =>
            have hs:=old_avoidT (fun _ h=>h.1) (Below.alloc hbw2 hbw2.size (.cells #[.slice p1 x.vals.length q1,.slice p2 x.lin.length q2] 70)) (HO2.out.ext ((Ext.refl _).alloc _))
            exact⟨_,_,rfl,S1.out.ext hs,S2.out.ext hs⟩
       case c2=>exact cells_new _ [.slice p1 x.vals.length q1,.slice p2 x.lin.length q2] _
       case c3=>rw [hxs];unfold maxLen;omega
       case c4=>rw [hxs];omega
       case c5=>have:=hbw2.size;(try simp at this);simp;omega
       intro g cap w3 hown3 hgr _
       go_wp2_with fail
       go_roundg ((la.length - p)+(lb.length - q) - 1)
       case measure=>omega
       case rel =>
            refine⟨p+1,q,by omega,by omega,by omega,by go_num,rfl,⟨xs ++ [x],by simp;omega,hown3,by rw [←HX.out,HM.out];simp⟩,?_⟩
            exact Below.grown (Below.alloc hbw2 hbw2.size _) hgr (by have:=hbw2.size;(try simp at this);simp;omega) (fun j hj=>(HO2.out.lt j hj).1))
     ·have hm:=hmR hc
      have hb:decide (cmpRow y x<0)=true:=by have:=ord_row.anti x y;simp;omega
      have HM:=Lib.hid hm
      have HB:=Lib.hid hb
      clear hm hmL hmR hc hb
      have hxr:=Gro.refl wr
      go_wp2_with fail
      go_region_held3 (fun w'=>Gro wr w'∧w'.cell? ⟨b1,o1+p*2,none⟩=some (.slice p1 x.vals.length q1)∧w'.cell? ⟨b1,o1+p*2+1,none⟩=some (.slice p2 x.lin.length q2)∧w'.cell? ⟨b2,o2+q*2,none⟩=some (.slice p3 y.vals.length q3)∧w'.cell? ⟨b2,o2+q*2+1,none⟩=some (.slice p4 y.lin.length q4))
       (first |exact⟨hxr.drew,c1,c2,d1,d2⟩ | assumption | exact keepG4 (by assumption) hx2)
       (first |(go_at_call 143;refine(ref_less _ _ _ _ y x _ (by exact T1.out.ext ((hsv).trans (And.left ‹Gro wr _∧_›).ext.full)) (by exact S1.out.ext ((hsv).trans (And.left ‹Gro wr _∧_›).ext.full)) (by exact T2.out.ext ((hsv).trans (And.left ‹Gro wr _∧_›).ext.full)) (by exact S2.out.ext ((hsv).trans (And.left ‹Gro wr _∧_›).ext.full))).mono ?_;rintro e w2 ⟨rfl,hx2⟩))
      all_goals (obtain⟨hfin,_⟩:= ‹Gro wr _∧_›)
      all_goals clear hxr
      all_goals clear c1 c2
      all_goals rw [HB.out]
      all_goals (
       replace d1:=hfin.at d1
       replace d2:=hfin.at d2
       have HO2:=Lib.hid (HO.out.ext hfin.ext)
       have hbw2:=Below.trans hbw (hfin.ext.mono hbw.size)
       clear hfin
       go_wp2_with (at_builtin;refine wpList_append_one Rep.row (fun k=>k<wB.heap.size∧T k) rfl _ _ 52 rfl wB.heap.size 70 i0 _ 48 Tryz.underlying52 hi hz0 hz1 hz2 rfl (by decide) _ xs rfl (HO2.out.ext ((Ext.refl _).alloc _)) ⟨_,0,none⟩ 1 y [.slice p3 y.vals.length q3,.slice p4 y.lin.length q4] rfl ?c1 ?c2 ?c3 ?c4 ?c5 ?_)
       case c1 =>
            have hs:=old_avoidT (fun _ h=>h.1) (Below.alloc hbw2 hbw2.size (.cells #[.slice p3 y.vals.length q3,.slice p4 y.lin.length q4] 70)) (HO2.out.ext ((Ext.refl _).alloc _))
            exact⟨_,_,rfl,T1.out.ext hs,T2.out.ext hs⟩
       case c2=>exact cells_new _ [.slice p3 y.vals.length q3,.slice p4 y.lin.length q4] _
       case c3=>rw [hxs];unfold maxLen;omega
       case c4=>rw [hxs];omega
       case c5=>have:=hbw2.size;(try simp at this);simp;omega
       intro g cap w3 hown3 hgr _
       go_wp2_with fail
       go_roundg ((la.length - p)+(lb.length - q) - 1)
       case measure=>omega
       case rel =>
            refine⟨p,q+1,by omega,by omega,by omega,rfl,by go_num,⟨xs ++ [y],by simp;omega,hown3,by rw [←HX.out,HM.out];simp⟩,?_⟩
            exact Below.grown (Below.alloc hbw2 hbw2.size _) hgr (by have:=hbw2.size;(try simp at this);simp;omega) (fun j hj=>(HO2.out.lt j hj).1))
    ·obtain⟨b1,o1,rfl⟩:=hA3 (by decide) (by omega)
     obtain⟨u1,u2,c1,c2,s1,s2⟩:=row_at A0.out p hp
     replace c1:=(on_some.1 (below_sub hbw (fun _ h=>h.1) _ _ c1)).2
     replace c2:=(on_some.1 (below_sub hbw (fun _ h=>h.1) _ _ c2)).2
     have hm:=merge_left cmpRow la lb p q hp (fun h=>absurd h hq)
     have hql:q=lb.length:=by omega
     have hd1:decide ((p:Int)<(la.length:Int))=true:=by simp;omega
     have hd2:((q:Int)==(lb.length:Int))=true:=by simp;omega
     have hd3:(p:Int)<(la.length:Int):=by omega
     generalize la[p]=x at s1 s2 hm
     have S1:=Lib.hid s1
     have S2:=Lib.hid s2
     obtain⟨p1,q1,rfl,_⟩:=s1.form
     obtain⟨p2,q2,rfl,_⟩:=s2.form
     clear s1 s2
     clear hql
     have HM:=Lib.hid hm
     clear hm
     go_wp2_with fail
     go_quiet (fail)
     all_goals (have hfin:=(Gro.refl wr).drewN nq)
     all_goals (
      replace c1:=hfin.at c1
      replace c2:=hfin.at c2
      have HO2:=Lib.hid (HO.out.ext hfin.ext)
      have hbw2:=Below.trans hbw (hfin.ext.mono hbw.size)
      clear hfin
      go_wp2_with (at_builtin;refine wpList_append_one Rep.row (fun k=>k<wB.heap.size∧T k) rfl _ _ 52 rfl wB.heap.size 70 i0 _ 48 Tryz.underlying52 hi hz0 hz1 hz2 rfl (by decide) _ xs rfl (HO2.out.ext ((Ext.refl _).alloc _)) ⟨_,0,none⟩ 1 x [.slice p1 x.vals.length q1,.slice p2 x.lin.length q2] rfl ?c1 ?c2 ?c3 ?c4 ?c5 ?_)
      case c1 =>
       have hs:=old_avoidT (fun _ h=>h.1) (Below.alloc hbw2 hbw2.size (.cells #[.slice p1 x.vals.length q1,.slice p2 x.lin.length q2] 70)) (HO2.out.ext ((Ext.refl _).alloc _))
       exact⟨_,_,rfl,S1.out.ext hs,S2.out.ext hs⟩
      case c2=>exact cells_new _ [.slice p1 x.vals.length q1,.slice p2 x.lin.length q2] _
      case c3=>rw [hxs];unfold maxLen;omega
      case c4=>rw [hxs];omega
      case c5=>have:=hbw2.size;(try simp at this);simp;omega
      intro g cap w3 hown3 hgr _
      go_wp2_with fail
      go_roundg ((la.length - p)+(lb.length - q) - 1)
      case measure=>omega
      case rel =>
       refine⟨p+1,q,by omega,by omega,by omega,by go_num,rfl,⟨xs ++ [x],by simp;omega,hown3,by rw [←HX.out,HM.out];simp⟩,?_⟩
       exact Below.grown (Below.alloc hbw2 hbw2.size _) hgr (by have:=hbw2.size;(try simp at this);simp;omega) (fun j hj=>(HO2.out.lt j hj).1))
   ·by_cases hq:q<lb.length
    ·obtain⟨b2,o2,rfl⟩:=hB3 (by decide) (by omega)
     obtain⟨v1,v2,d1,d2,t1,t2⟩:=row_at B0.out q hq
     replace d1:=(on_some.1 (below_sub hbw (fun _ h=>h.1) _ _ d1)).2
     replace d2:=(on_some.1 (below_sub hbw (fun _ h=>h.1) _ _ d2)).2
     have hm:=merge_right cmpRow la lb p q hq (fun h=>absurd h hp)
     have hd1:decide ((p:Int)<(la.length:Int))=false:=by simp;omega
     have hd5:decide ((q:Int)<(lb.length:Int))=true:=by simp;omega
     have hd2:((q:Int)==(lb.length:Int))=false:=by simp;omega
     have hd4:(q:Int)<(lb.length:Int):=by omega
     generalize lb[q]=y at t1 t2 hm
     have T1:=Lib.hid t1
     have T2:=Lib.hid t2
     obtain⟨p3,q3,rfl,_⟩:=t1.form
     obtain⟨p4,q4,rfl,_⟩:=t2.form
     clear t1 t2
     have HM:=Lib.hid hm
     clear hm
     go_wp2_with fail
     go_quiet (fail)
     all_goals (have hfin:=(Gro.refl wr).drewN nq)
     all_goals (
      replace d1:=hfin.at d1
      replace d2:=hfin.at d2
      have HO2:=Lib.hid (HO.out.ext hfin.ext)
      have hbw2:=Below.trans hbw (hfin.ext.mono hbw.size)
      clear hfin
      go_wp2_with (at_builtin;refine wpList_append_one Rep.row (fun k=>k<wB.heap.size∧T k) rfl _ _ 52 rfl wB.heap.size 70 i0 _ 48 Tryz.underlying52 hi hz0 hz1 hz2 rfl (by decide) _ xs rfl (HO2.out.ext ((Ext.refl _).alloc _)) ⟨_,0,none⟩ 1 y [.slice p3 y.vals.length q3,.slice p4 y.lin.length q4] rfl ?c1 ?c2 ?c3 ?c4 ?c5 ?_)
      case c1 =>
       have hs:=old_avoidT (fun _ h=>h.1) (Below.alloc hbw2 hbw2.size (.cells #[.slice p3 y.vals.length q3,.slice p4 y.lin.length q4] 70)) (HO2.out.ext ((Ext.refl _).alloc _))
       exact⟨_,_,rfl,T1.out.ext hs,T2.out.ext hs⟩
      case c2=>exact cells_new _ [.slice p3 y.vals.length q3,.slice p4 y.lin.length q4] _
      case c3=>rw [hxs];unfold maxLen;omega
      case c4=>rw [hxs];omega
      case c5=>have:=hbw2.size;(try simp at this);simp;omega
      intro g cap w3 hown3 hgr _
      go_wp2_with fail
      go_roundg ((la.length - p)+(lb.length - q) - 1)
      case measure=>omega
      case rel =>
       refine⟨p,q+1,by omega,by omega,by omega,rfl,by go_num,⟨xs ++ [y],by simp;omega,hown3,by rw [←HX.out,HM.out];simp⟩,?_⟩
       exact Below.grown (Below.alloc hbw2 hbw2.size _) hgr (by have:=hbw2.size;(try simp at this);simp;omega) (fun j hj=>(HO2.out.lt j hj).1))
    ·have hd1:decide ((p:Int)<(la.length:Int))=false:=by simp;omega
     have hd5:decide ((q:Int)<(lb.length:Int))=false:=by simp;omega
     have hfn:xs=sortBy cmpRow l:=by
      have e1:la.drop p = []:=List.drop_eq_nil_of_le (by omega)
      have e2:lb.drop q = []:=List.drop_eq_nil_of_le (by omega)
      rw [←HX.out,e1,e2]
      simp [mergeBy]
     have HN:=Lib.hid hfn
     clear hfn
     go_wp2_with fail
     go_ret
     exact⟨_,rfl,by rw [←HN.out];exact HO.out.sliceIn (fun _ _ h=>h.2) (fun k hk=>HT.out k (Nat.le_trans hx0.size hk)),Ext.trans hx0 (hbw.mono (Nat.le_refl _))⟩
theorem ref_sortT (T:Nat→Prop) (n:Nat) : ∀(l:List Row),l.length≤n→ ∀(v:Value) (w:World),l.length≤1048576→(∀k,w.heap.size≤k→T k)→SliceOf Rep.row (on w T) v l→Calls Tryz.prog 88 #[v] w fun e w'=> ∃v',e = .returned v'∧SliceOf Rep.row (on w' T) v' (sortBy cmpRow l)∧Ext w w':=by
 induction n with
 |zero=>exact fun l hl v w hf hT hv=>ref_sortT_step T l hf (fun l' _ _ _ _ h=>by omega) v w hT hv
 |succ n ih=>exact fun l hl v w hf hT hv=>ref_sortT_step T l hf (fun l' v' w' hT' hv' h=>ih l' (by omega) v' w' (by omega) hT' hv') v w hT hv
set_option maxRecDepth 100000 in
set_option maxHeartbeats 4000000 in
theorem ref_timesliceT (T:Nat→Prop) (v:Value) (l:List Tup) (x:Int) (w:World) (hT : ∀k,w.heap.size≤k→T k) (hvT:SliceOf Rep.tup (on w T) v l) (hl:l.length≤20000) :
  Calls Tryz.prog 62 #[v,.int .i64 x] w fun e w'=> ∃v',e = .returned v'∧SliceOf Rep.row (on w' T) v' (sortBy cmpRow (sliceRows l x))∧Ext w w':=by
 have HT:=Lib.hid hT
 have HVT:=Lib.hid hvT
 have hv:SliceOf Rep.tup w.cell? v l:=hvT.ext (on_sub w T)
 clear hT hvT
 obtain⟨i0,hi,hz0,hz1,hz2⟩:=info_parts infoRow
 obtain⟨p,cap,rfl,hc1,hc2,hp⟩:=hv.form
 obtain⟨N,hN⟩ : ∃N,N=l.length:=⟨_,rfl⟩
 have HV:=Lib.hid hv
 rw [←hN]
 have HN:=Lib.hid hN
 have HP:=Lib.hid hp
 have hNl:N≤20000:=by omega
 clear hv hN hp hc1 hc2
 go_enter Tryz.func62,Tryz.ntmps62
 go_wp2_with fail
 go_loopg [5,10] N (fun gk vo vi wr=> ∃(k:Nat) (u:Value) (o:List Row),k≤N∧gk=N - k∧vi = .int .i64 k∧u=vo∧Hid (OwnOf Rep.row wr (fun k=>k<w.heap.size∧T k) w.heap.size 70 u o)∧Hid (o=sliceRows (l.take k) x)∧Ext w wr)
 case atStart=>exact⟨0,_,[],by omega,rfl,rfl,rfl,OwnOf.nil _ _ _ _ _,rfl,Ext.refl w⟩
 case round =>
  obtain⟨k,u,o,hk,rfl,rfl,rfl,OW,AS,hx⟩:=hrel
  by_cases hlt:k<N
  ·have hkl:k<l.length:=by have:=HN.out;omega
   obtain⟨b,o',rfl⟩:=HP.out (by decide) (by omega)
   have hv:=HV.out
   rw [←HN.out]at hv
   have hvt:=HVT.out
   rw [←HN.out]at hvt
   obtain⟨ta,tb,c0,c1,c2,c3,g0,g1,r1,r2⟩:=tup_at hvt k hkl
   replace c0:=(on_some.1 c0).2
   replace c1:=(on_some.1 c1).2
   replace c2:=(on_some.1 c2).2
   replace c3:=(on_some.1 c3).2
   obtain⟨pa,ka,ta',_⟩:=g0.form
   obtain⟨pb,kb,tb',_⟩:=g1.form
   subst ta' tb'
   replace c0:=hx.at c0
   replace c1:=hx.at c1
   replace c2:=hx.at c2
   replace c3:=hx.at c3
   have hst:=slice_step l x k hkl
   have hol:o.length≤20000:=by
    rw [AS.out,sliceRows_len]
    exact Nat.le_trans (cnt_len _ _) (Nat.le_trans (List.length_take_le _ _) (by omega))
   rw [←AS.out]at hst
   unfold tupRow at hst
   generalize l[k]=y at c0 c1 c2 c3 g0 g1 r1 r2 hst
   obtain⟨vs,f,t,ln⟩:=y
   dsimp only at c0 c1 c2 c3 g0 g1 r1 r2 hst
   have HST:=Lib.hid hst
   have G0:=Lib.hid g0
   have G1:=Lib.hid g1
   have HOL:=Lib.hid hol
   have hd:decide ((k:Int)<(N:Int))=true:=by simp;omega
   have e0:=cell_lt c0
   clear hst g0 g1 r1 r2 hv hvt hol
   go_wp2_with fail
   refine(includes_any f t x _).mono ?_
   rintro e w1 ⟨rfl,x1⟩
   have d0:w1.cell? ⟨wr.heap.size,0,none⟩=some (.slice pa vs.length ka):=x1.at (by go_simp)
   have d3:w1.cell? ⟨wr.heap.size,3,none⟩=some (.slice pb ln.length kb):=x1.at (by go_simp)
   have X1:=Lib.hid (show Ext wr w1 from ((Ext.refl wr).alloc _).trans x1)
   have e1:=cell_lt d0
   clear x1 c0 c1 c2 c3 e0
   cases hvb:(validB f t&&decide (f≤x)&&decide (x<t))with
   |true =>
    have HVB:=Lib.hid hvb
    clear hvb
    have XA:=Lib.hid (hx.trans (X1.out.alloc (.cells #[.slice pa vs.length ka,.slice pb ln.length kb] 70)))
    have OA:=Lib.hid (OW.out.ext (X1.out.alloc (.cells #[.slice pa vs.length ka,.slice pb ln.length kb] 70)))
    have B1:o.length+1≤maxLen:=by have:=HOL.out;unfold maxLen;omega
    have B2:(o.length+1)*48≤140737488355328:=by have:=HOL.out;omega
    go_wp2_with (at_builtin;refine wpList_append_one Rep.row (fun k=>k<w.heap.size∧T k) rfl _ _ 52 rfl w.heap.size 70 i0 _ 48 Tryz.underlying52 hi hz0 hz1 hz2 rfl (by decide) u o rfl (by exact OA.out) ⟨w1.heap.size,0,none⟩ 1 ⟨vs,ln⟩ [.slice pa vs.length ka,.slice pb ln.length kb] rfl (by
     have hs:Sub (on w T) (on (w1.alloc (.cells #[.slice pa vs.length ka,.slice pb ln.length kb] 70)) (avoid (fun k=>k<w.heap.size∧T k) u)):=(on_mono w (T:=fun k=>k<w.heap.size∧T k) fun k hk h=>⟨hk,h⟩).trans (old_avoidT (fun _ h=>h.1) XA.out OA.out)
     exact⟨_,_,rfl,G0.out.ext hs,G1.out.ext hs⟩) (by exact cells_new w1 [.slice pa vs.length ka,.slice pb ln.length kb] _) B1 B2 (by exact XA.out.size) ?_)
    intro g cap w3 own gr _
    have hxx:Ext w w3:=XA.out.grownNew gr OW.out.base
    have OW2:=Lib.hid own
    clear own gr d0 d3 e1
    go_wp2_with fail
    go_roundg (N - (k+1))
    case measure=>omega
    case rel=>exact⟨k+1,_,o ++ [(⟨vs,ln⟩:Row)],by omega,rfl,by go_num,rfl,OW2.out,by show _=_;rw [HST.out,if_pos HVB.out],hxx⟩
   |false =>
    have HVB:=Lib.hid hvb
    clear hvb
    go_wp2_with fail
    go_roundg (N - (k+1))
    case measure=>omega
    case rel=>exact⟨k+1,u,o,by omega,rfl,by go_num,rfl,OW.out.ext X1.out,by show _=_;rw [HST.out,HVB.out,if_neg (by decide),List.append_nil],hx.trans X1.out⟩
  ·have hkN:k=N:=by omega
   have hd : ¬(k:Int)<(N:Int):=by omega
   have HF:=Lib.hid (show o=sliceRows l x from by
    have h:=AS.out
    rw [hkN,HN.out,List.take_length]at h
    exact h)
   have hol:(sliceRows l x).length≤20000:=by
    rw [sliceRows_len]
    exact Nat.le_trans (cnt_len _ _) (by have:=HN.out;omega)
   have S5:=Lib.hid (show SliceOf Rep.row (on wr T) u (sliceRows l x)from by rw [←HF.out];exact OW.out.sliceIn (fun _ _ h=>h.2) HT.out)
   clear hkN
   go_wp2_with fail
   refine(ref_sortT T 20000 (sliceRows l x) hol _ _ (by omega) (fun k hk=>HT.out k (Nat.le_trans hx.size hk)) S5.out).mono ?_
   rintro e w4 ⟨v4,rfl,s4,x4⟩
   have S4:=Lib.hid s4
   have X4:=Lib.hid (hx.trans x4)
   clear s4 x4
   go_wp2_with fail
   go_ret
   exact⟨_,rfl,S4.out,X4.out⟩
set_option maxHeartbeats 1000000 in
theorem refRow_any (pa pb:Option Addr) (na ka nb kb:Nat) (f t:Int) (w:World) :
  Calls Tryz.prog 51 #[.agg #[.slice pa na ka,.int .i64 f,.int .i64 t,.slice pb nb kb]] w fun e w'=>e = .returned (.agg #[.slice pa na ka,.slice pb nb kb])∧Ext w w':=by
 go_enter Tryz.func51,Tryz.ntmps51
 go_wp2_with fail
 refine bodyPost_ret (v:= .agg #[.slice pa na ka,.slice pb nb kb]) (by simp [results,Tryz.results51,go_sem]) rfl ⟨rfl,((Ext.refl w).alloc _).alloc _⟩
theorem info_tupR:(Tryz.prog.info? 96).map (fun i=>(i.zero,i.size,i.bytes))=some (some (.agg #[.slice none 0 0,.int .i64 0,.int .i64 0,.slice none 0 0]),Rep.tup.size,64):=by kernel_rfl
set_option maxRecDepth 100000 in
set_option maxHeartbeats 4000000 in
theorem refFromRows_any (T:Nat→Prop) (v:Value) (l:List Row) (f t:Int) (w:World) (hT : ∀k,w.heap.size≤k→T k) (hvT:SliceOf Rep.row (on w T) v l) (hl:l.length≤30000000) (hft:okI f∧okI t) (hvb:validB f t=true) :
  Calls Tryz.prog 63 #[v,perV f t] w fun e w'=> ∃v',e = .returned v'∧SliceOf Rep.tup (on w' T) v' (l.map fun r=>tupOf r ⟨f,t⟩)∧Ext w w':=by
 have HT:=Lib.hid hT
 have HVT:=Lib.hid hvT
 obtain⟨i0,hi,hz0,hz1,hz2⟩:=info_parts info_tupR
 obtain⟨p,cap,rfl,hc1,hc2,hp⟩:=hvT.form
 obtain⟨N,hN⟩ : ∃N,N=l.length:=⟨_,rfl⟩
 rw [←hN]at HVT ⊢
 have HN:=Lib.hid hN
 have HP:=Lib.hid hp
 have HFT:=Lib.hid hft
 have HVB:=Lib.hid hvb
 have hNl:N≤30000000:=by omega
 clear hT hvT hN hp hc1 hc2 hl hft hvb
 go_enter Tryz.func63,Tryz.ntmps63
 go_wp2_with fail
 refine(rvalid_any f t _).mono ?_
 rintro e w1 ⟨rfl,x1⟩
 rw [HVB.out]
 have d1:w1.cell? ⟨w.heap.size,0,none⟩=some (.int .i64 f):=x1.at (by go_simp)
 have d2:w1.cell? ⟨w.heap.size,1,none⟩=some (.int .i64 t):=x1.at (by go_simp)
 have X1:=Lib.hid (show Ext w w1 from ((Ext.refl w).alloc _).trans x1)
 have D1:=Lib.hid (And.intro d1 d2)
 have e1:=cell_lt d1
 clear x1 d1 d2
 go_wp2_with fail
 go_loopg [5,13] N (fun gk vo vi wr=> ∃(k:Nat) (u:Value) (o:List Tup),k≤N∧gk=N - k∧vi = .int .i64 k∧u=vo∧Hid (OwnOf Rep.tup wr (fun k=>k<w.heap.size∧T k) w.heap.size 96 u o)∧Hid (o=(l.take k).map fun r=>tupOf r ⟨f,t⟩)∧Hid (∀kk,Value.ownBlock u=some kk→kk≠w.heap.size)∧Ext w wr∧wr.cell? ⟨w.heap.size,0,none⟩=some (.int .i64 f)∧wr.cell? ⟨w.heap.size,1,none⟩=some (.int .i64 t))
 case atStart=>exact⟨0,_,[],by omega,rfl,rfl,rfl,OwnOf.nil _ _ _ _ _,rfl,(fun kk h=>by cases h),X1.out,D1.out.1,D1.out.2⟩
 case round =>
  obtain⟨k,u,o,hk,rfl,rfl,rfl,OW,HO,HNE,hx,d1,d2⟩:=hrel
  have e1:=cell_lt d1
  by_cases hlt:k<N
  ·have hkl:k<l.length:=by have:=HN.out;omega
   obtain⟨b,o',rfl⟩:=HP.out (by decide) (by omega)
   have hvt:=HVT.out
   rw [HN.out]at hvt
   obtain⟨ta,tb,c0,c1,g0,g1⟩:=row_at hvt k hkl
   obtain⟨pa,ka,ta',_⟩:=g0.form
   obtain⟨pb,kb,tb',_⟩:=g1.form
   subst ta' tb'
   replace c0:=hx.at (on_some.1 c0).2
   replace c1:=hx.at (on_some.1 c1).2
   have hst:(l.take (k+1)).map (fun r=>tupOf r ⟨f,t⟩)=o ++ [⟨l[k].vals,f,t,l[k].lin⟩]:=by
    rw [List.take_succ_eq_append_getElem hkl,List.map_append,HO.out]
    rfl
   have hol:o.length≤30000000:=by rw [HO.out,List.length_map,List.length_take];omega
   generalize l[k]=y at c0 c1 g0 g1 hst
   obtain⟨vs,ln⟩:=y
   dsimp only at c0 c1 g0 g1 hst
   have HST:=Lib.hid hst
   have G0:=Lib.hid g0
   have G1:=Lib.hid g1
   have HOL:=Lib.hid hol
   have hd:decide ((k:Int)<(N:Int))=true:=by simp;omega
   have e0:=cell_lt c0
   have XA:=Lib.hid ((hx.alloc (.cells #[.slice pa vs.length ka,.slice pb ln.length kb] 70)).alloc (.cells #[.slice pa vs.length ka,.int .i64 f,.int .i64 t,.slice pb ln.length kb] 96))
   have XR:=Lib.hid (((Ext.refl wr).alloc (.cells #[.slice pa vs.length ka,.slice pb ln.length kb] 70)).alloc (.cells #[.slice pa vs.length ka,.int .i64 f,.int .i64 t,.slice pb ln.length kb] 96))
   have OA:=Lib.hid (OW.out.ext XR.out)
   have B1:o.length+1≤maxLen:=by have:=HOL.out;unfold maxLen;omega
   have B2:(o.length+1)*64≤140737488355328:=by have:=HOL.out;omega
   have hcn:=cells_new (wr.alloc (.cells #[.slice pa vs.length ka,.slice pb ln.length kb] 70)) [.slice pa vs.length ka,.int .i64 f,.int .i64 t,.slice pb ln.length kb] 96
   have hsz:(wr.alloc (.cells #[.slice pa vs.length ka,.slice pb ln.length kb] 70)).heap.size=wr.heap.size+1:=by simp
   rw [hsz]at hcn
   have HCN:=Lib.hid hcn
   clear hcn hsz
   have h1:=XR.out.at d1
   have h2:=XR.out.at d2
   have H12:=Lib.hid (And.intro h1 h2)
   clear hst g0 g1 hvt hol h1 h2
   go_wp2_with (at_builtin;go_loud (refine wpList_append_one Rep.tup (fun k=>k<w.heap.size∧T k) rfl _ _ 22 rfl w.heap.size 96 i0 _ 64 Tryz.underlying22 hi hz0 hz1 hz2 rfl (by decide) u o rfl (by exact OA.out) ⟨wr.heap.size+1,0,none⟩ 1 ⟨vs,f,t,ln⟩ [.slice pa vs.length ka,.int .i64 f,.int .i64 t,.slice pb ln.length kb] rfl (by
     have hs:Sub (on w T) (on ((wr.alloc (.cells #[.slice pa vs.length ka,.slice pb ln.length kb] 70)).alloc (.cells #[.slice pa vs.length ka,.int .i64 f,.int .i64 t,.slice pb ln.length kb] 96)) (avoid (fun k=>k<w.heap.size∧T k) u)):=(on_mono w (T:=fun k=>k<w.heap.size∧T k) fun k hk h=>⟨hk,h⟩).trans (old_avoidT (fun _ h=>h.1) XA.out OA.out)
     exact⟨_,_,rfl,G0.out.ext hs,G1.out.ext hs,HFT.out.1,HFT.out.2⟩) (by exact HCN.out) B1 B2 (by exact XA.out.size) ?_))
   intro g cap w3 own gr hat
   have hxx:Ext w w3:=XA.out.grownNew gr OW.out.base
   have OW2:=Lib.hid own
   have hn2:=Lib.hid (show ∀kk,(Value.slice (some ⟨g,0,none⟩) (o.length+1) cap).ownBlock=some kk→kk≠w.heap.size from fun kk hkk=>by
    injection hkk with hkk
    subst hkk
    rcases hat with h | h
    ·exact HNE.out _ h
    ·have h1:=XR.out.size
     have h3:g≠w.heap.size:=by rw [h];omega
     exact h3)
   have n1:=cell_grown gr H12.out.1 HNE.out
   have n2:=cell_grown gr H12.out.2 HNE.out
   clear own gr hat d1 d2 e0 e1 c0 c1
   go_wp2_with fail
   go_roundg (N - (k+1))
   case measure=>omega
   case rel=>exact⟨k+1,_,o ++ [(⟨vs,f,t,ln⟩:Tup)],by omega,rfl,by go_num,rfl,OW2.out,HST.out.symm,hn2.out,hxx,n1,n2⟩
  ·have hkN:k=N:=by omega
   have hd : ¬(k:Int)<(N:Int):=by omega
   have HF:=Lib.hid (show o=l.map fun r=>tupOf r ⟨f,t⟩from by
    have h:=HO.out
    rw [hkN,HN.out,List.take_length]at h
    exact h)
   clear hkN
   go_wp2_with fail
   go_ret
   exact⟨u,rfl,by rw [←HF.out];exact OW.out.sliceIn (fun _ _ h=>h.2) HT.out,hx⟩
end Go.Proofs.YtkddkbpoefidpaaGreatDoor
