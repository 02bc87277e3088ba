/- joined texts of a proof: BagI, BagJ, BagK, ShelfB, BagL, BagS, PlainD, AreaP, PointP, PlainL, PlainR, PlainN, PlainG, PlainK, MapV, PlainE, PerR, Chg, Cut, Step, ShelfD, LevW, NormI -/
import Derived.Test.YtombmdaohcjokaaGreatDoorKX02
import Derived.IntWalk
import Derived.Shelf.Spec.SlicesGrow
import Derived.Ground.Names8Prog
import Derived.Test.YtombmdaohcjokaaGreatDoorProg
import Derived.Sort.OwnSortedInts
import Derived.Lib.OwnBridge
import Derived.Lib.SlicesCompact
import Derived.Lib.ItoaNum
import Derived.Test.YtombmdaohcjokaaGreatDoorKX01
import Derived.Maps.Own
import Derived.Maps.OwnOps
import Derived.Maps.RangeWalk
import Derived.Maps.Views
import Derived.Deep.RegionLaw
import Derived.Ground.SlsfProg
import Derived.Shelf.SlSortCmp.WholeK
namespace Go.Proofs.YtombmdaohcjokaaGreatDoor
open Go.RowKit
set_option maxHeartbeats 2000000 in
theorem ref_compareRows (va vb:Value) (l l':List Val) (w:World) (ha:SliceOf Rep.val w.cell? va l) (hb:SliceOf Rep.val w.cell? vb l') :
  Calls Tryz.prog 36 #[va,vb] w
   fun e w'=>e = .returned (.int .i64 (cmpVals l l'))∧Gro w w':=by
 obtain⟨pa,ca,rfl,ha1,ha2,ha3⟩:=ha.form
 obtain⟨pb,cb,rfl,hb1,hb2,hb3⟩:=hb.form
 unfold maxLen at ha2 hb2
 go_enter Tryz.func36,Tryz.ntmps36
 go_wp2_with fail
 go_loopg [5] l.length (fun gk i wr=> ∃k:Nat,k≤l.length∧gk=l.length - k∧i = .int .i64 k∧(k≤l'.length∧cmpVals l l'=lexI cmpVal (l.drop k) (l'.drop k))∧Gro w wr)
 case atStart=>exact⟨0,by omega,rfl,rfl,⟨by omega,rfl⟩,Gro.refl w⟩
 case round =>
  obtain⟨k,hk,rfl,rfl,⟨hk2,hc⟩,hx⟩:=hrel
  have HC:=Lib.hid hc
  clear hc
  by_cases hlt:k<l.length∧k<l'.length
  ·obtain⟨hlt,hlt2⟩:=hlt
   obtain⟨ba,oa,rfl⟩:=ha3 (by decide) (by omega)
   obtain⟨c1,c2,c3⟩:=val_at ha k hlt
   replace c1:=hx.at c1
   replace c2:=hx.at c2
   replace c3:=hx.at c3
   have hd:decide ((k:Int)<(l.length:Int))=true:=by simp;omega
   have hd1:(k:Int)<(l.length:Int):=by omega
   obtain⟨bb,ob,rfl⟩:=hb3 (by decide) (by omega)
   obtain⟨d1,d2,d3⟩:=val_at hb k hlt2
   replace d1:=hx.at d1
   replace d2:=hx.at d2
   replace d3:=hx.at d3
   have hdr:=lexI_drop cmpVal l l' k hlt hlt2
   have hdb:decide ((k:Int)<(l'.length:Int))=true:=by simp;omega
   have hd2:(k:Int)<(l'.length:Int):=by omega
   generalize l[k]=x at c1 c2 c3 hdr
   generalize l'[k]=y at d1 d2 d3 hdr
   have HD:=Lib.hid hdr
   clear hdr ha hb ha3 hb3
   have hxr:=Gro.refl wr
   go_wp2_with fail
   go_region_held3 (fun w'=>Gro wr w'∧w'.cell? ⟨ba,oa+k*3,none⟩=some (.int .i64 x.kind)∧w'.cell? ⟨ba,oa+k*3+1,none⟩=some (.int .i64 x.n)∧w'.cell? ⟨ba,oa+k*3+2,none⟩=some (.string x.s)∧w'.cell? ⟨bb,ob+k*3,none⟩=some (.int .i64 y.kind)∧w'.cell? ⟨bb,ob+k*3+1,none⟩=some (.int .i64 y.n)∧w'.cell? ⟨bb,ob+k*3+2,none⟩=some (.string y.s))
    (first |exact⟨hxr.drew,c1,c2,c3,d1,d2,d3⟩ | assumption | exact keepG6 (by assumption) hx2)
    (first |(go_at_call 75;refine(ref_compare x y _).mono ?_;rintro e w2 ⟨rfl,hx2⟩))
   all_goals (obtain⟨hfin,_⟩:= ‹Gro wr _∧_›)
   all_goals (replace hx:=hx.trans hfin)
   all_goals clear c1 c2 c3 d1 d2 d3
   all_goals generalize hq:cmpVal x y=q
   all_goals (have HQ:=Lib.hid hq)
   all_goals clear hq
   all_goals by_cases hq0:q=0
   all_goals first
    |(have hqb:(q != 0)=false:=by simp [hq0]
      have HQ0:=Lib.hid hq0
      clear hq0
      go_wp2_with fail
      go_roundg (l.length - (k+1))
      case measure=>omega
      case rel=>exact⟨k+1,by omega,rfl,by go_num,⟨by omega,by rw [HC.out,HD.out,HQ.out,if_pos HQ0.out]⟩,hx⟩)
    |(have hqb:(q != 0)=true:=by simp [hq0]
      have HQ0:=Lib.hid hq0
      clear hq0
      go_wp2_with fail
      go_ret
      exact⟨ret_int (by rw [HC.out,HD.out,HQ.out,if_neg HQ0.out]),hx⟩)
  ·have hend:=lexI_done cmpVal l l' k hk hk2 hlt
   have HE:=Lib.hid hend
   clear hend
   by_cases hk3:k<l.length
   ·have hd:decide ((k:Int)<(l.length:Int))=true:=by simp;omega
    have hdb:decide ((k:Int)<(l'.length:Int))=false:=by simp;omega
    go_wp2_with fail
    all_goals go_ret
    all_goals exact⟨ret_int (by rw [HC.out,HE.out];(repeat' split) <;> first | rfl | omega),hx⟩
   ·have hd:decide ((k:Int)<(l.length:Int))=false:=by simp;omega
    go_wp2_with fail
    all_goals go_ret
    all_goals exact⟨ret_int (by rw [HC.out,HE.out];(repeat' split) <;> first | rfl | omega),hx⟩
theorem eqB_row (a b:Row):eqB a b=((cmpVals a.vals b.vals==0)&&(cmpInts a.lin b.lin==0)):=by
 rw [←cmpRow_zero]
 unfold cmpRow orI orI orI
 by_cases h1:cmpVals a.vals b.vals=0 <;> by_cases h2:cmpInts a.lin b.lin=0 <;> simp [h1,h2]
set_option maxHeartbeats 2000000 in
theorem ref_sameRow (va vb ua ub:Value) (a b:Row) (w:World) (ha:SliceOf Rep.val w.cell? va a.vals) (hb:SliceOf Rep.val w.cell? vb b.vals) (ka:SliceOf Rep.int w.cell? ua a.lin) (kb:SliceOf Rep.int w.cell? ub b.lin) :
  Calls Tryz.prog 66 #[.agg #[va,ua],.agg #[vb,ub]] w fun e w'=>e = .returned (.bool (eqB a b))∧Gro w w':=by
 have HA:=Lib.hid ha
 have HB:=Lib.hid hb
 have KA:=Lib.hid ka
 have KB:=Lib.hid kb
 have HE:=Lib.hid (eqB_row a b)
 obtain⟨pa,ca,rfl,_⟩:=ha.form
 obtain⟨pb,cb,rfl,_⟩:=hb.form
 obtain⟨qa,da,rfl,_⟩:=ka.form
 obtain⟨qb,db,rfl,_⟩:=kb.form
 generalize eqB a b=r at HE ⊢
 clear ha hb ka kb
 go_enter Tryz.func66,Tryz.ntmps66
 go_wp2_with fail
 have hx:=((Gro.refl w).alloc (.cells #[.slice pa a.vals.length ca,.slice qa a.lin.length da] 58)).alloc (.cells #[.slice pb b.vals.length cb,.slice qb b.lin.length db] 58)
 have c2:((w.alloc (.cells #[.slice pa a.vals.length ca,.slice qa a.lin.length da] 58)).alloc (.cells #[.slice pb b.vals.length cb,.slice qb b.lin.length db] 58)).cell? ⟨w.heap.size,1,none⟩=some (.slice qa a.lin.length da):=by go_simp
 have c4:((w.alloc (.cells #[.slice pa a.vals.length ca,.slice qa a.lin.length da] 58)).alloc (.cells #[.slice pb b.vals.length cb,.slice qb b.lin.length db] 58)).cell? ⟨w.heap.size+1,1,none⟩=some (.slice qb b.lin.length db):=by go_simp
 refine(ref_compareRows _ _ a.vals b.vals _ (HA.out.ext hx.ext.full) (HB.out.ext hx.ext.full)).mono ?_
 rintro e w1 ⟨rfl,hx1⟩
 replace hx:=hx.trans hx1
 replace c2:=hx1.at c2
 replace c4:=hx1.at c4
 clear hx1
 generalize cmpVals a.vals b.vals=q at HE ⊢
 by_cases hq:q=0
 ·subst hq
  go_wp2_with fail
  refine(ref_compareInts _ _ a.lin b.lin _ (KA.out.ext hx.ext.full) (KB.out.ext hx.ext.full)).mono ?_
  rintro e w2 ⟨rfl,hx2⟩
  replace hx:=hx.trans hx2
  clear hx2 c2 c4
  generalize cmpInts a.lin b.lin=q2 at HE ⊢
  go_wp2_with fail
  all_goals go_ret
  all_goals exact⟨ret_bool (by rw [HE.out];simp),hx⟩
 ·have hqb:(q==0)=false:=by simp [hq]
  have HQ:=Lib.hid hq
  clear hq
  go_wp2_with fail
  all_goals go_ret
  all_goals exact⟨ret_bool (by rw [HE.out];simp [HQ.out]),hx⟩
end Go.Proofs.YtombmdaohcjokaaGreatDoor
namespace Go.Proofs.YtombmdaohcjokaaGreatDoor
open Go.RowKit
set_option maxHeartbeats 2000000 in
theorem ref_sameRows (va vb:Value) (l l':List Row) (w:World) (ha:SliceOf Rep.row w.cell? va l) (hb:SliceOf Rep.row w.cell? vb l') :
  Calls Tryz.prog 23 #[va,vb] w fun e w'=>e = .returned (.bool (eqB l l'))∧Gro w w':=by
 obtain⟨pa,ca,rfl,ha1,ha2,ha3⟩:=ha.form
 obtain⟨pb,cb,rfl,hb1,hb2,hb3⟩:=hb.form
 unfold maxLen at ha2 hb2
 go_enter Tryz.func23,Tryz.ntmps23
 by_cases hlen:l.length=l'.length
 ·have hlb:((l.length:Int) != (l'.length:Int))=false:=by simp [hlen]
  have HLn:=Lib.hid hlen
  clear hlen
  go_wp2_with fail
  go_loopg [5] l.length (fun gk i wr=> ∃k:Nat,k≤l.length∧gk=l.length - k∧i = .int .i64 k∧eqB l l'=eqB (l.drop k) (l'.drop k)∧Gro w wr)
  case atStart=>exact⟨0,by omega,rfl,rfl,rfl,Gro.refl w⟩
  case round =>
   obtain⟨k,hk,rfl,rfl,hc,hx⟩:=hrel
   have HC:=Lib.hid hc
   clear hc
   by_cases hlt:k<l.length
   ·have hlt2:k<l'.length:=by have:=HLn.out;omega
    obtain⟨ba,oa,rfl⟩:=ha3 (by decide) (by omega)
    obtain⟨bb,ob,rfl⟩:=hb3 (by decide) (by omega)
    obtain⟨u1,u2,c1,c2,s1,s2⟩:=row_at ha k hlt
    obtain⟨v1,v2,d1,d2,t1,t2⟩:=row_at hb k hlt2
    have hdr:=eqB_drop l l' k hlt hlt2
    generalize l[k]=x at s1 s2 hdr
    generalize l'[k]=y at t1 t2 hdr
    replace c1:=hx.at c1
    replace c2:=hx.at c2
    replace d1:=hx.at d1
    replace d2:=hx.at d2
    replace s1:=s1.ext hx.ext.full
    replace s2:=s2.ext hx.ext.full
    replace t1:=t1.ext hx.ext.full
    replace t2:=t2.ext hx.ext.full
    have HD:=Lib.hid hdr
    have S1:=Lib.hid s1
    have S2:=Lib.hid s2
    have T1:=Lib.hid t1
    have T2:=Lib.hid t2
    obtain⟨p1,q1,rfl,_⟩:=s1.form
    obtain⟨p2,q2,rfl,_⟩:=s2.form
    obtain⟨p3,q3,rfl,_⟩:=t1.form
    obtain⟨p4,q4,rfl,_⟩:=t2.form
    have hd:decide ((k:Int)<(l.length:Int))=true:=by simp;omega
    have hd1:(k:Int)<(l.length:Int):=by omega
    have hd2:(k:Int)<(l'.length:Int):=by omega
    clear s1 s2 t1 t2 hdr ha hb ha3 hb3
    have hxr:=Gro.refl wr
    go_wp2_with fail
    go_region_held3 (fun w'=>Gro wr w'∧w'.cell? ⟨ba,oa+k*2,none⟩=some (.slice p1 x.vals.length q1)∧w'.cell? ⟨ba,oa+k*2+1,none⟩=some (.slice p2 x.lin.length q2)∧w'.cell? ⟨bb,ob+k*2,none⟩=some (.slice p3 y.vals.length q3)∧w'.cell? ⟨bb,ob+k*2+1,none⟩=some (.slice p4 y.lin.length q4))
     (first |exact⟨hxr.drew,c1,c2,d1,d2⟩ | assumption | exact keepG4 (by assumption) hx2)
     (first |(go_at_call 66;refine(ref_sameRow _ _ _ _ x y _ (by exact S1.out.ext (And.left ‹Gro wr _∧_›).ext.full) (by exact T1.out.ext (And.left ‹Gro wr _∧_›).ext.full) (by exact S2.out.ext (And.left ‹Gro wr _∧_›).ext.full) (by exact T2.out.ext (And.left ‹Gro wr _∧_›).ext.full)).mono ?_;rintro e w2 ⟨rfl,hx2⟩))
    all_goals (obtain⟨hfin,_⟩:= ‹Gro wr _∧_›)
    all_goals (replace hx:=hx.trans hfin)
    all_goals clear c1 c2 d1 d2
    all_goals generalize hq:eqB x y=q
    all_goals (have HQ:=Lib.hid hq)
    all_goals clear hq
    all_goals cases q
    all_goals first
     |(go_wp2_with fail
       go_roundg (l.length - (k+1))
       case measure=>omega
       case rel=>exact⟨k+1,by omega,rfl,by go_num,by rw [HC.out,HD.out,HQ.out,Bool.true_and],hx⟩)
     |(go_wp2_with fail
       go_ret
       exact⟨ret_bool (by rw [HC.out,HD.out,HQ.out,Bool.false_and]),hx⟩)
   ·have:k=l.length:=by omega
    subst this
    have hen:=eqB_end l l' HLn.out
    have HE:=Lib.hid hen
    clear hen
    go_wp2_with fail
    go_ret
    exact⟨ret_bool (by rw [HC.out,HE.out]),hx⟩
 ·have hlb:((l.length:Int) != (l'.length:Int))=true:=by simp;omega
  have hen:=eqB_len l l' hlen
  have HE:=Lib.hid hen
  clear hen
  go_wp2_with fail
  go_ret
  exact⟨ret_bool HE.out.symm,Gro.refl w⟩
def few (n:Nat) (l:List Row):Prop:=l.length≤n∧ ∀r∈l,r.vals.length≤6∧r.lin.length≤6
end Go.Proofs.YtombmdaohcjokaaGreatDoor
namespace Go.Proofs.YtombmdaohcjokaaGreatDoor
open Go.RowKit
theorem RepAll.flatten_take {α:Type} {R:Rep α} {w:View} {css:List (List Value)} {xs:List α} (h:RepAll R w css xs) (k:Nat):(css.take k).flatten=css.flatten.take (k*R.size):=by
 induction css generalizing xs k with
 |nil=>simp
 |cons c css ih=>cases xs with
  |nil=>exact h.elim
  |cons x xs=>cases k with
   |zero=>simp
   |succ k =>
    have hc:=R.len h.1
    rw [List.take_succ_cons,List.flatten_cons,List.flatten_cons,ih h.2,List.take_append,hc,Nat.succ_mul,List.take_of_length_le (l:=c) (by rw [hc];omega),Nat.add_sub_cancel]
theorem RepAll.flatten_drop {α:Type} {R:Rep α} {w:View} {css:List (List Value)} {xs:List α} (h:RepAll R w css xs) (k:Nat):(css.drop k).flatten=css.flatten.drop (k*R.size):=by
 induction css generalizing xs k with
 |nil=>simp
 |cons c css ih=>cases xs with
  |nil=>exact h.elim
  |cons x xs=>cases k with
   |zero=>simp
   |succ k =>
    have hc:=R.len h.1
    rw [List.drop_succ_cons,List.flatten_cons,ih h.2,List.drop_append,hc,Nat.succ_mul,List.drop_of_length_le (l:=c) (by rw [hc];omega),Nat.add_sub_cancel,List.nil_append]
theorem SliceOf.takeV {α:Type} {R:Rep α} {w:View} {b o cap n:Nat} {xs:List α} (h:SliceOf R w (.slice (some ⟨b,o,none⟩) n cap) xs) (k:Nat) (hk:k≤xs.length) :
  SliceOf R w (.slice (some ⟨b,o,none⟩) k cap) (xs.take k):=by
 obtain⟨css,h1,h2⟩:=h
 refine⟨css.take k,h1.take k,?_⟩
 have hl:(xs.take k).length=k:=by simp;omega
 rw [hl,h1.flatten_take]
 rcases h2 with ⟨he,_⟩ | ⟨ad,c,he,g1,g2,g3⟩
 ·cases he
 ·injection he with e1 e2 e3
  injection e1 with e1
  subst e1 e2 e3
  refine .inr ⟨_,cap,rfl,by omega,g2,?_⟩
  rcases g3 with g3 | ⟨b',o',ha,g3⟩
  ·exact .inl (by rw [g3];simp)
  ·refine .inr ⟨b',o',ha,fun j u hj=> ?_⟩
   rw [List.getElem?_take]at hj
   split at hj
   ·exact g3 j u hj
   ·cases hj
theorem SliceOf.dropV {α:Type} {R:Rep α} {w:View} {b o cap n:Nat} {xs:List α} (h:SliceOf R w (.slice (some ⟨b,o,none⟩) n cap) xs) (k:Nat) (hk:k≤xs.length) :
  SliceOf R w (.slice (some ⟨b,o+k*R.size,none⟩) (xs.length - k) (cap - k)) (xs.drop k):=by
 obtain⟨css,h1,h2⟩:=h
 refine⟨css.drop k,h1.drop k,?_⟩
 rw [List.length_drop,h1.flatten_drop]
 rcases h2 with ⟨he,_⟩ | ⟨ad,c,he,g1,g2,g3⟩
 ·cases he
 ·injection he with e1 e2 e3
  injection e1 with e1
  subst e1 e2 e3
  refine .inr ⟨_,cap - k,rfl,by omega,by omega,?_⟩
  rcases g3 with g3 | ⟨b',o',ha,g3⟩
  ·exact .inl (by rw [g3];simp)
  ·injection ha with ha1 ha2
   subst ha1 ha2
   refine .inr ⟨b,_,rfl,fun j u hj=> ?_⟩
   rw [List.getElem?_drop]at hj
   rw [Nat.add_assoc]
   exact g3 _ u hj
def mergeBy {α:Type} (c:α→α→Int) (l l':List α):List α:=List.merge l l' fun a b=>decide (c a b≤0)
theorem old_avoid {α:Type} {R:Rep α} {W w':World} {S:Nat→Prop} {e:TypeId} {v:Value} {xs:List α} (hb:Below W.heap.size W w') (hown:OwnOf R w' S W.heap.size e v xs) :
  Sub (on W (fun k=>k<W.heap.size)) (on w' (avoid (fun k=>k<W.heap.size) v)) :=
 (below_sub hb fun _ h=>h).trans (on_mono _ fun k _ hk=>⟨fun he=>by have:=(hown.lt k he.symm).1;omega,hk⟩)
theorem sortBy_short {α:Type} (c:α→α→Int) (l:List α) (h:l.length<2):sortBy c l=l:=by
 match l,h with
 |[],_=>simp [sortBy]
 |[a],_=>simp [sortBy]
end Go.Proofs.YtombmdaohcjokaaGreatDoor
namespace Go.Proofs
open Go.Shelf
def Tryz.growInt_ren:Go.Shelf.Ren:=⟨fun | 4=>116 | n=>n,fun | 22=>29 | 25=>3 | 3=>3 | 4=>4 | 9=>9 | 20=>20 | 0=>0 | n=>n,fun | n=>n⟩
theorem Tryz.growInt:Go.Proofs.Lays8.n4 Tryz.prog Tryz.growInt_ren:= {
 mixed:=by kernel_rfl
 f4:=⟨Tryz.f116.name,by decide,Tryz.func116.trans (congrArg some (by kernel_rfl))⟩
 t0:=Tryz.underlying0
 a0:=Tryz.isAgg0
 z0:=Tryz.sizeOf0
 v0:=Tryz.zeroValue0
 t3:=Tryz.underlying3
 a3:=Tryz.isAgg3
 z3:=Tryz.sizeOf3
 v3:=Tryz.zeroValue3
 t4:=Tryz.underlying4
 a4:=Tryz.isAgg4
 z4:=Tryz.sizeOf4
 v4:=Tryz.zeroValue4
 t9:=Tryz.underlying9
 a9:=Tryz.isAgg9
 z9:=Tryz.sizeOf9
 v9:=Tryz.zeroValue9
 t20:=Tryz.underlying20
 a20:=Tryz.isAgg20
 z20:=Tryz.sizeOf20
 v20:=Tryz.zeroValue20
 t22:=Tryz.underlying29
 a22:=Tryz.isAgg29
 z22:=Tryz.sizeOf29
 v22:=Tryz.zeroValue29 }
end Go.Proofs
namespace Go.Proofs.YtombmdaohcjokaaGreatDoor
open Go.RowKit
def mergeL (l l':List Int):List Int:=Lib.compact ((l++l').mergeSort fun x y=>decide (x≤y))
theorem compactUpTo_law (d:Array Int) (hs : ∀i j,i≤j→j<d.size→d[i]! ≤d[j]!) (m:Nat) (hm:m≤d.size) :
  (Lib.compactUpTo d m).Pairwise (· < ·)∧ ∀x,x∈Lib.compactUpTo d m↔ ∃j,j<m∧d[j]! = x:=by
 induction m with
 |zero=>simp [Lib.compactUpTo]
 |succ m ih =>
  obtain⟨h1,h2⟩:=ih (by omega)
  rw [Lib.compactUpTo_succ]
  by_cases hk:Lib.keeps d m=true
  ·rw [if_pos hk]
   constructor
   ·rw [List.pairwise_append]
    refine⟨h1,by simp,fun a ha b hb=> ?_⟩
    rw [List.mem_singleton]at hb
    subst hb
    obtain⟨j,hj,rfl⟩:=(h2 a).1 ha
    have h3:=hs j (m - 1) (by omega) (by omega)
    have h4:=hs (m - 1) m (by omega) (by omega)
    have h5:d[m]! ≠d[m - 1]! := fun e=>by
     have:=Lib.keeps_neg (by omega) e
     rw [this]at hk
     cases hk
    omega
   ·intro x
    rw [List.mem_append,h2,List.mem_singleton]
    constructor
    ·rintro(⟨j,hj,e⟩ | e)
     ·exact⟨j,by omega,e⟩
     ·exact⟨m,by omega,e.symm⟩
    ·rintro⟨j,hj,e⟩
     by_cases hjm:j=m
     ·subst hjm;exact .inr e.symm
     ·exact .inl ⟨j,by omega,e⟩
  ·have hk':Lib.keeps d m=false:=by simpa using hk
   rw [if_neg hk,List.append_nil]
   refine⟨h1,fun x=> ?_⟩
   rw [h2]
   have hm0:0<m:=by
    rcases Nat.eq_zero_or_pos m with h | h
    ·subst h;simp [Lib.keeps]at hk'
    ·exact h
   have he:d[m]! = d[m - 1]! := Classical.byContradiction fun e=>by
    have:=Lib.keeps_pos (d:=d) (m:=m) e
    rw [this]at hk'
    cases hk'
   constructor
   ·rintro⟨j,hj,e⟩
    exact⟨j,by omega,e⟩
   ·rintro⟨j,hj,e⟩
    by_cases hjm:j=m
    ·subst hjm;exact⟨j - 1,by omega,by rw [←he];exact e⟩
    ·exact⟨j,by omega,e⟩
theorem compact_law (l:List Int) (hs:l.Pairwise (· ≤ ·)):(Lib.compact l).Pairwise (· < ·)∧ ∀x,x∈Lib.compact l↔x∈l:=by
 have h:=compactUpTo_law l.toArray (fun i j hij hj=>by
  have hj':j<l.length:=by simpa using hj
  rw [getElem!_pos l.toArray i (by simp;omega),getElem!_pos l.toArray j (by simpa using hj)]
  simp only [List.getElem_toArray]
  by_cases e:i=j
  ·subst e;exact Int.le_refl _
  ·exact List.pairwise_iff_getElem.1 hs i j (by omega) (by omega) (by omega)) l.length (by simp)
 refine⟨h.1,fun x=>(h.2 x).trans ?_⟩
 constructor
 ·rintro⟨j,hj,e⟩
  rw [getElem!_pos l.toArray j (by simpa using hj)]at e
  subst e
  simp
 ·intro hx
  obtain⟨j,hj,e⟩:=List.getElem_of_mem hx
  exact⟨j,hj,by rw [getElem!_pos l.toArray j (by simpa using hj)];simpa using e⟩
theorem mergeL_law (l l':List Int):(mergeL l l').Pairwise (· < ·)∧ ∀x,x∈mergeL l l'↔x∈l∨x∈l':=by
 have hs:((l++l').mergeSort fun x y=>decide (x≤y)).Pairwise (· ≤ ·):=by
  have:=List.pairwise_mergeSort (le:=fun x y:Int=>decide (x≤y)) (fun a b c h1 h2=>by simp only [decide_eq_true_eq]at *;omega) (fun a b=>by simp only [Bool.or_eq_true,decide_eq_true_eq];omega) (l++l')
  exact this.imp (by simp)
 obtain⟨h1,h2⟩:=compact_law _ hs
 refine⟨h1,fun x=>(h2 x).trans ?_⟩
 rw [(List.mergeSort_perm _ _).mem_iff,List.mem_append]
theorem asc_unique {l l':List Int} (h:l.Pairwise (· < ·)) (h':l'.Pairwise (· < ·)) (he : ∀x,x∈l↔x∈l'):l=l':=by
 refine List.Perm.eq_of_pairwise (le:=(· < ·)) (fun a b _ _ h1 h2=>by omega) h h' ?_
 exact(List.perm_ext_iff_of_nodup (h.imp fun h=>by omega) (h'.imp fun h=>by omega)).2 he
def inR (l:List Int):Prop:= ∀x∈l,-9223372036854775808≤x∧x≤9223372036854775807
theorem repAll_ints {h:View} {css:List (List Value)} {xs:List Int} (k:RepAll Rep.int h css xs):css.flatten=xs.map (Value.int .i64)∧inR xs:=by
 induction css generalizing xs with
 |nil=>cases xs with
  |nil=>exact⟨rfl,fun x hx=>by cases hx⟩
  |cons x xs=>exact k.elim
 |cons c css ih=>cases xs with
  |nil=>exact k.elim
  |cons x xs =>
   obtain⟨⟨rfl,h1⟩,h2⟩:=k
   obtain⟨h3,h4⟩:=ih h2
   refine⟨by simp [h3],fun y hy=> ?_⟩
   rcases List.mem_cons.1 hy with rfl | hy
   ·exact h1
   ·exact h4 y hy
theorem ints_repAll (h:View) (xs:List Int) (k:inR xs):RepAll Rep.int h (xs.map fun x=> [.int .i64 x]) xs:=by
 induction xs with
 |nil=>trivial
 |cons x xs ih=>exact⟨⟨rfl,k x (by simp)⟩,ih fun y hy=>k y (by simp [hy])⟩
theorem flat_ints (xs:List Int):(xs.map fun x=> [Value.int .i64 x]).flatten=xs.map (Value.int .i64):=by
 induction xs with
 |nil=>rfl
 |cons x xs ih=>simp [ih]
theorem OwnOf.ints {w:World} {S:Nat→Prop} {base:Nat} {e:TypeId} {v:Value} {xs:List Int} (h:OwnOf Rep.int w S base e v xs):w.ownsRow base e 1 v xs.length (xs.map (Value.int .i64))∧inR xs:=by
 obtain⟨css,h1,h2⟩:=h
 obtain⟨h3,h4⟩:=repAll_ints h1
 exact⟨by rw [←h3];exact h2,h4⟩
theorem OwnOf.ofInts {w:World} (S:Nat→Prop) {base:Nat} {e:TypeId} {v:Value} {xs:List Int} (h:w.ownsRow base e 1 v xs.length (xs.map (Value.int .i64))) (hr:inR xs):OwnOf Rep.int w S base e v xs :=
 ⟨_,ints_repAll _ _ hr,by rw [flat_ints];exact h⟩
theorem grow_ints (S:Nat→Prop) (n:Nat) (w:World) (hn:n≤1099511627776):Calls Tryz.prog 116 #[.slice none 0 0,.int .i64 n] w fun e w'=> ∃v',e = .returned v'∧OwnOf Rep.int w' S w.heap.size 3 v' []∧Ext w w':=by
 obtain⟨i0,hi,hz0,hz1,hz2⟩:=info_parts info_ints
 by_cases h0:n=0
 ·subst h0
  refine(Any8.slices_Grow_room Tryz.growInt none 0 0 0 w (Nat.le_refl _) (by omega) (by omega) (by omega)).mono ?_
  rintro e w' ⟨rfl,rfl⟩
  exact⟨_,rfl,OwnOf.nil _ _ _ _ _,Ext.refl _⟩
 ·refine(Any8.slices_Grow_grow Tryz.growInt i0 _ hi hz0 (by rw [hz1];decide) none 0 0 n [] w (Nat.le_refl _) (by omega) (by rw [hz2];omega) (by omega) (by simp) (fun _=>rfl) (fun a h=>by cases h)).mono ?_
  rintro e w' ⟨rfl,rfl⟩
  have hg:=grownCap_ge w (0+n) 0 (Tryz.growInt_ren.t 25)
  have hg2:=grownCap_le_maxLen w (0+n) 0 (Tryz.growInt_ren.t 25) (by unfold maxLen;omega)
  refine⟨_,rfl,⟨[],trivial,?_⟩,(Ext.refl w).drew.alloc _⟩
  refine World.ownsRow_made w.drew _ _ (Nat.le_refl _) hg2 ?_
  generalize grownCap w (0+n) 0 (Tryz.growInt_ren.t 25)=cap at hg
  rw [show Rep.int.size=1 from rfl]
  simp [size_zeroCells,Value.cells]
  omega
theorem slice_at {α:Type} {R:Rep α} {w:View} {b o n cap:Nat} {xs:List (List α)} (h:SliceOf (Rep.slice R) w (.slice (some ⟨b,o,none⟩) n cap) xs) (i:Nat) (hi:i<xs.length) :
  ∃v,w ⟨b,o+i,none⟩=some v∧SliceOf R w v xs[i]:=by
 obtain⟨c,⟨v,rfl,h1⟩,h2⟩:=h.at i hi
 have:=h2 0 _ rfl
 rw [show (Rep.slice R).size=1 from rfl,Nat.mul_one,Nat.add_zero]at this
 exact⟨v,this,h1⟩
theorem flatten_take {α:Type} (ls:List (List α)) (k:Nat) (h:k<ls.length):(ls.take (k+1)).flatten=(ls.take k).flatten++ls[k]:=by
 rw [List.take_succ_eq_append_getElem h,List.flatten_append];simp only [List.flatten_cons,List.flatten_nil,List.append_nil]
theorem flatten_take_le {α:Type} (ls:List (List α)) (k:Nat):(ls.take k).flatten.length≤ls.flatten.length:=by
 have:ls.flatten=(ls.take k).flatten++(ls.drop k).flatten:=by rw [←List.flatten_append,List.take_append_drop]
 rw [this,List.length_append]
 omega
set_option maxHeartbeats 2000000 in
theorem concat_ints (v:Value) (ls:List (List Int)) (w:World) (hv:SliceOf (Rep.slice Rep.int) w.cell? v ls) (hbig:ls.flatten.length≤1099511627776) :
  Calls Tryz.prog 69 #[v] w fun e w'=> ∃v',e = .returned v'∧OwnOf Rep.int w' (fun _=>True) w.heap.size 3 v' ls.flatten∧Ext w w':=by
 obtain⟨i0,hi,hz0,hz1,hz2⟩:=info_parts info_ints
 obtain⟨pa,ca,rfl,ha1,ha2,ha3⟩:=hv.form
 have HV:=Lib.hid hv
 unfold maxLen at ha2
 go_enter Tryz.func69,Tryz.ntmps69
 go_wp2_with fail
 go_loopg [3,11] ls.length (fun gk n i wr=> ∃k m:Nat,k≤ls.length∧gk=ls.length - k∧i = .int .i64 k∧n = .int .i64 m∧m=(ls.take k).flatten.length∧w=wr)
 case atStart=>exact⟨0,0,by omega,rfl,rfl,rfl,by simp,rfl⟩
 case round =>
  obtain⟨k,m,hk,rfl,rfl,rfl,hm,rfl⟩:=hrel
  have hle:=flatten_take_le ls k
  by_cases hlt:k<ls.length
  ·obtain⟨ba,oa,rfl⟩:=ha3 (by decide) (by omega)
   obtain⟨u,c1,s1⟩:=slice_at hv k hlt
   have ht:=flatten_take ls k hlt
   have hle2:=flatten_take_le ls (k+1)
   obtain⟨p1,q1,rfl,hq1,hq2,_⟩:=s1.form
   have hml:(ls.take (k+1)).flatten.length=m+ls[k].length:=by rw [ht,List.length_append,hm]
   rw [hml]at hle2
   rw [←hm]at hle
   generalize ls[k].length=n1 at hml hle2 hq1 c1 s1
   have HL:=Lib.hid hml
   have HM:=Lib.hid hm
   unfold maxLen at hq2
   have hd:decide ((k:Int)<(ls.length:Int))=true:=by simp;omega
   have hd1:(k:Int)<(ls.length:Int):=by omega
   have hd2:decide ((m:Int)+(n1:Int)<0)=false:=by simp;omega
   clear s1 ht hml hm hv ha3
   go_wp2_with fail
   go_roundg (ls.length - (k+1))
   case measure=>omega
   case rel=>exact⟨k+1,m+n1,by omega,rfl,by go_num,by go_num,HL.out.symm,rfl⟩
  ·have:k=ls.length:=by omega
   subst this
   rw [List.take_length]at hm
   have hmb:m≤1099511627776:=by rw [hm];exact hbig
   clear hv hle hm
   have HB:=Lib.hid hbig
   clear hbig
   go_wp2_with fail
   refine(grow_ints (fun _=>True) m _ hmb).mono ?_
   rintro e w1 ⟨v1,rfl,hown,hx⟩
   have HO:=Lib.hid hown
   clear hown
   go_wp2_with fail
   go_loopg [6,27] ls.length (fun gk v i wr=> ∃k:Nat,k≤ls.length∧gk=ls.length - k∧i = .int .i64 k∧OwnOf Rep.int wr (fun _=>True) w.heap.size 3 v (ls.take k).flatten∧Ext w wr)
   case atStart=>exact⟨0,by omega,rfl,rfl,by simpa using HO.out,hx⟩
   case round =>
    clear HO hx
    obtain⟨k,hk,rfl,rfl,hown,hx⟩:=hrel
    by_cases hlt:k<ls.length
    ·obtain⟨ba,oa,rfl⟩:=ha3 (by decide) (by omega)
     obtain⟨u,c1,s1⟩:=slice_at HV.out k hlt
     have ht:=flatten_take ls k hlt
     have hle2:=flatten_take_le ls (k+1)
     have HO:=Lib.hid hown
     have hbg:=Nat.le_trans hle2 HB.out
     rw [ht,List.length_append]at hbg
     have hsub : ∀v',OwnOf Rep.int wr (fun _=>True) w.heap.size 3 v' (ls.take k).flatten→Sub w.cell? (on wr (avoid (fun _=>True) v')):=fun v' ho p u e=>by
      have hlt2:=World.block_lt_of_cell? w p e
      refine on_some.2 ⟨⟨fun he=> ?_,trivial⟩,hx.at e⟩
      have:=(ho.lt _ he.symm).1
      omega
     replace s1:=s1.ext (hsub _ hown)
     replace c1:=hx.at c1
     generalize ls[k]=x at s1 ht hbg
     have HT:=Lib.hid ht
     have HG:=Lib.hid hbg
     have S1:=Lib.hid s1
     obtain⟨p1,q1,rfl,hq1,hq2,_⟩:=s1.form
     have hd:decide ((k:Int)<(ls.length:Int))=true:=by simp;omega
     have hd1:(k:Int)<(ls.length:Int):=by omega
     clear s1 ht hbg hown ha3 hle2 hsub
     go_wp2_with (at_builtin;refine wpList_append_all Rep.int (fun _=>True) rfl _ _ 29 rfl w.heap.size 3 i0 _ 8 Tryz.underlying29 hi hz0 hz1 hz2 rfl (by decide) _ (ls.take k).flatten rfl HO.out _ x rfl S1.out ?c1 ?c2 ?c3 ?_)
     case c1=>have:=HG.out;unfold maxLen;omega
     case c2=>have:=HG.out;omega
     case c3=>exact hx.size
     intro v' w3 hown3 hgr _
     go_wp2_with fail
     go_roundg (ls.length - (k+1))
     case measure=>omega
     case rel=>exact⟨k+1,by omega,rfl,by go_num,by rw [HT.out];exact hown3,Below.grown hx hgr hx.size (fun j hj=>(HO.out.lt j hj).1)⟩
    ·have:k=ls.length:=by omega
     subst this
     rw [List.take_length]at hown
     have HO:=Lib.hid hown
     clear hown ha3
     go_wp2_with fail
     go_ret
     exact⟨_,rfl,HO.out,hx⟩
theorem sort_ints (S:Nat→Prop) (v:Value) (xs:List Int) (w:World) (base:Nat) (e:TypeId) (h:OwnOf Rep.int w S base e v xs) (hn:xs.length<4611686018427387904) :
  Calls Tryz.prog 70 #[v] w fun en w'=>en = .returned (.tuple #[])∧OwnOf Rep.int w' S base e v (xs.mergeSort fun x y=>decide (x≤y))∧w.grownBy w' v.ownBlock:=by
 obtain⟨h1,hr⟩:=h.ints
 by_cases hv:v = .slice none 0 0
 ·subst hv
  have hx:xs.length=0:=by
   rcases h1.2 with ⟨_,h0⟩ | ⟨_,_,_,h0,_⟩
   ·exact h0
   ·cases h0
  have hx:=List.eq_nil_of_length_eq_zero hx
  subst hx
  refine(Tryz.slices_Sort_int_none none 0 w).mono ?_
  rintro en w' ⟨rfl,rfl⟩
  exact⟨rfl,by simpa using h,⟨rfl,rfl,rfl,Nat.le_refl _,fun _ _ _=>rfl⟩⟩
 ·obtain⟨g,cap,rfl,g1,g2,g3,g4,_,hH⟩:=Lib.holds_of_ownsRow h1 hv
  refine(Tryz.slices_Sort_int g 0 cap xs w hH g2 hn).mono ?_
  rintro en w' ⟨rfl,n,os,rfl⟩
  have hp:=List.mergeSort_perm xs fun x y=>decide (x≤y)
  rcases h1.2 with ⟨h0,_⟩ | ⟨g',cap',cur,h0,hb,hg,hm1,hm2,hs,ht⟩
  ·cases h0
  ·injection h0 with e1 e2 e3
   injection e1 with e1
   injection e1 with e1
   subst e1 e3
   have:=ownsRow_sortedI (w:=w) (base:=base) (g:=g) (cap:=cap) (n:=n) (e:=e) (os:=os) (cur:=cur) (ss:=xs) (ts:=xs.mergeSort fun x y=>decide (x≤y)) hp.length_eq hb hg hm1 hm2 hs
   refine⟨rfl,?_,grownBy_sortedI _⟩
   rw [←hp.length_eq]at this ⊢
   exact OwnOf.ofInts S this fun x hx=>hr x (hp.mem_iff.1 hx)
theorem compact_ints (S:Nat→Prop) (v:Value) (xs:List Int) (w:World) (base:Nat) (e:TypeId) (h:OwnOf Rep.int w S base e v xs) :
  Calls Tryz.prog 71 #[v] w fun en w'=> ∃v',en = .returned v'∧OwnOf Rep.int w' S base e v' (Lib.compact xs)∧w.grownBy w' v.ownBlock:=by
 obtain⟨h1,hr⟩:=h.ints
 by_cases hv:v = .slice none 0 0
 ·subst hv
  have hx:xs.length=0:=by
   rcases h1.2 with ⟨_,h0⟩ | ⟨_,_,_,h0,_⟩
   ·exact h0
   ·cases h0
  have hx:=List.eq_nil_of_length_eq_zero hx
  subst hx
  refine(Tryz.slices_Compact_int_empty none 0 w).mono ?_
  rintro en w' ⟨rfl,rfl⟩
  exact⟨_,rfl,by simpa [Lib.compact,Lib.compactUpTo] using h,⟨rfl,rfl,rfl,Nat.le_refl _,fun _ _ _=>rfl⟩⟩
 ·obtain⟨g,cap,rfl,g1,g2,g3,g4,_,hH⟩:=Lib.holds_of_ownsRow h1 hv
  unfold maxLen at g4
  refine(Tryz.slices_Compact_int g 0 cap xs w hH (by omega) g3).mono ?_
  rintro en w' ⟨rfl,q,rfl⟩
  have hle:=Lib.compact_length_le xs
  have:=Lib.ownsRow_putRow (q:=q) (k:=(Lib.compact xs).length) (ys:=Lib.compact xs++List.replicate (xs.length - (Lib.compact xs).length) 0) h1 (by simp;omega) hle
  rw [List.take_left']at this
  ·refine⟨_,rfl,OwnOf.ofInts S this fun x hx=>hr x ?_,?_⟩
   ·have:x∈((Lib.compact xs)):=hx
    unfold Lib.compact Lib.compactUpTo at this
    rw [List.mem_map]at this
    obtain⟨j,hj,rfl⟩:=this
    have hj:=(List.mem_filter.1 hj).1
    rw [List.mem_range]at hj
    rw [getElem!_pos xs.toArray j (by simpa using hj)]
    simp
   ·refine⟨rfl,rfl,rfl,by simp [Sort.ahead],fun k hk hne=> ?_⟩
    have:g≠k:=fun e=>hne (by rw [e];rfl)
    simp [Sort.putRow,Sort.mapBlock,Sort.ahead,Array.getElem?_modify,this]
  ·rfl
set_option maxHeartbeats 1000000 in
theorem merge_lineageB (va vb:Value) (l l':List Int) (w:World) (ha:SliceOf Rep.int w.cell? va l) (hb:SliceOf Rep.int w.cell? vb l') (hf:l.length≤137438953472) (hf':l'.length≤137438953472) :
  Calls Tryz.prog 29 #[va,vb] w fun e w'=> ∃v',e = .returned v'∧SliceOf Rep.int (on w' (since w)) v' (mergeL l l')∧Ext w w':=by
 have HA:=Lib.hid ha
 have HB:=Lib.hid hb
 obtain⟨pa,ca,rfl,_⟩:=ha.form
 obtain⟨pb,cb,rfl,_⟩:=hb.form
 clear ha hb
 go_enter Tryz.func29,Tryz.ntmps29
 go_wp2_with fail
 have hx:=(Ext.refl w).alloc (.cells #[.slice pa l.length ca,.slice pb l'.length cb] 29)
 refine(concat_ints _ [l,l'] _ ⟨[[.slice pa l.length ca],[.slice pb l'.length cb]],⟨⟨_,rfl,HA.out.ext hx.full⟩,⟨_,rfl,HB.out.ext hx.full⟩,trivial⟩,.inr ⟨_,2,rfl,by simp,by simp [maxLen],.inr ⟨_,0,rfl,fun j u hj=> ?_⟩⟩⟩ (by simp;omega)).mono ?_
 ·rw [World.cell?_alloc_at _ _ _ _ rfl]
  simpa using hj
 rintro e w1 ⟨v1,rfl,hown1,hx1⟩
 replace hx:=hx.trans hx1
 simp only [List.flatten_cons,List.flatten_nil,List.append_nil]at hown1
 replace hown1:=hown1.weak (base':=w.heap.size) (fun _ _ h=>h) (by simp)
 have hlen:(l++l').length<4611686018427387904:=by simp;omega
 have H1:=Lib.hid hown1
 clear hx1 hown1
 go_wp2_with fail
 refine(sort_ints _ _ _ _ _ _ H1.out hlen).mono ?_
 rintro e w2 ⟨rfl,hown2,hg2⟩
 have H2:=Lib.hid hown2
 have hx2:=Below.grown hx hg2 hx.size (fun k hk=>(H1.out.lt k hk).1)
 clear hown2 hg2 hx
 go_wp2_with fail
 refine(compact_ints _ _ _ _ _ _ H2.out).mono ?_
 rintro e w3 ⟨v3,rfl,hown3,hg3⟩
 have H3:=Lib.hid hown3
 have hx3:=Below.grown hx2 hg3 hx2.size (fun k hk=>(H2.out.lt k hk).1)
 clear hown3 hg3 hx2
 go_wp2_with fail
 go_ret
 exact⟨_,rfl,H3.out.fresh flat_int,hx3⟩
theorem merge_lineage (va vb:Value) (l l':List Int) (w:World) (ha:SliceOf Rep.int w.cell? va l) (hb:SliceOf Rep.int w.cell? vb l') (hf:l.length≤1048576) (hf':l'.length≤1048576) :
 Calls Tryz.prog 29 #[va,vb] w fun e w'=> ∃v',e = .returned v'∧SliceOf Rep.int (on w' (since w)) v' (mergeL l l')∧Ext w w':=merge_lineageB va vb l l' w ha hb (by omega) (by omega)
end Go.Proofs.YtombmdaohcjokaaGreatDoor
namespace Go.Proofs.YtombmdaohcjokaaGreatDoor
def AscOf (l xs:List Int):Prop:=l.Pairwise (· < ·)∧(∀x,x∈l↔x∈xs)∧l.length≤xs.length
end Go.Proofs.YtombmdaohcjokaaGreatDoor
namespace Go.Proofs.YtombmdaohcjokaaGreatDoor
def validT (t:Tup):Bool:=validB t.from_ t.to_
def bnd (l:List Tup):List Int:=l.flatMap fun t=>if validT t=true then [t.from_,t.to_]else []
def chg1 (t:Tup) (x:Int):Int:=if validT t=true then(if t.from_=x then 1 else 0) - (if t.to_=x then 1 else 0)else 0
def chg:List Tup→Int→Int
 |[],_=>0
 |t::l,x=>chg1 t x+chg l x
def holdsAt (x:Int) (t:Tup):Bool:=validT t&&decide (t.from_≤x)&&decide (x<t.to_)
def cntAt (l:List Tup) (x:Int):Nat:=(l.filter (holdsAt x)).length
def sumL:List Int→Int
 |[]=>0
 |x::l=>x+sumL l
structure StepI where
 from_:Int
 to_:Int
 n:Int
def addStep (out:List StepI) (s:StepI):List StepI :=
 match out.getLast? with
 |some p=>if p.n=s.n then out.dropLast ++ [⟨p.from_,s.to_,p.n⟩]else out ++ [s]
 |none=> [s]
def stepsOf (P:List Int) (f:Nat→Int):Nat→List StepI
 |0=> []
 |k+1=>addStep (stepsOf P f k) ⟨P[k]!,P[k+1]!,f k⟩
theorem addStep_nil (s:StepI):addStep [] s = [s]:=rfl
def pts (l:List Tup):List Int:=mergeL (bnd l) []
def depthOf (l:List Tup):List StepI:=stepsOf (pts l) (fun i=>cntAt l (pts l)[i]!) ((pts l).length - 1)
end Go.Proofs.YtombmdaohcjokaaGreatDoor
namespace Go.Proofs.YtombmdaohcjokaaGreatDoor
open Go.Shelf Go.Sort
structure Per where
 from_:Int
 to_:Int
def NormPer (s:List Per):Prop:=s.Pairwise (fun a b=>a.to_<b.from_)∧ ∀p∈s,p.from_<p.to_
def inPer (s:List Per) (x:Int):Prop:= ∃p∈s,p.from_≤x∧x<p.to_
def addPer (out:List Per) (p:Per):List Per :=
 match out.getLast? with
 |some q=>if p.from_≤q.to_ then out.dropLast ++ [⟨q.from_,max q.to_ p.to_⟩]else out ++ [p]
 |none=> [p]
def mergePer (l:List Per):List Per:=l.foldl addPer []
def absorb:List Per→Per→Per×List Per
 |[],p=>(p,[])
 |q::s,p=>if q.from_≤p.to_ then absorb s ⟨min p.from_ q.from_,max p.to_ q.to_⟩else(p,q::s)
def insPer:List Per→Per→List Per
 |[],p=> [p]
 |q::s,p=>if q.to_<p.from_ then q::insPer s p else(absorb (q::s) p).1::(absorb (q::s) p).2
def refNorm (l:List Per):List Per:=(l.filter fun p=>validB p.from_ p.to_).foldl insPer []
end Go.Proofs.YtombmdaohcjokaaGreatDoor
namespace Go.Proofs.YtombmdaohcjokaaGreatDoor
def sumN (g:Nat→Int):Nat→Int
 |0=>0
 |k+1=>sumN g k+g k
def dP (P:List Int) (i:Nat):Int:=P[i+1]! - P[i]!
def ind (b:Bool):Int:=if b=true then 1 else 0
def inI (x y z:Int):Bool:=decide (x≤z)&&decide (z<y)
def lens:List Tup→Int
 |[]=>0
 |t::l=>(t.to_ - t.from_)+lens l
def area:List StepI→Int
 |[]=>0
 |s::l=>(s.to_ - s.from_)*s.n+area l
def cov:List StepI→Int
 |[]=>0
 |s::l=>(if 0<s.n then s.to_ - s.from_ else 0)+cov l
def StepRuns (d:List StepI):Prop:=(∀s∈d,s.from_<s.to_)∧ ∀i (h:i+1<d.length),d[i].to_=d[i+1].from_∧d[i].n≠d[i+1].n
def perLen:List Per→Int
 |[]=>0
 |p::s=>(p.to_ - p.from_)+perLen s
def Ends (L:List Int) (s:List Per):Prop:= ∀p∈s,p.from_∈L∧p.to_∈L
def tupPer (t:Tup):Per:=⟨t.from_,t.to_⟩
end Go.Proofs.YtombmdaohcjokaaGreatDoor
namespace Go.Proofs.YtombmdaohcjokaaGreatDoor
def hE (t:Int) (e:Ev):Bool:=validB e.from_ e.to_&&decide (e.from_≤t)&&decide (t<e.to_)
def inP (t:Int) (p:Pair):Bool:=decide (p.from_≤t)&&decide (t<p.to_)
def valAt (t:Int) (l:List StepI):Int:=l.foldl (fun d s=>if s.from_≤t∧t<s.to_ then s.n else d) 0
end Go.Proofs.YtombmdaohcjokaaGreatDoor
namespace Go.Proofs.YtombmdaohcjokaaGreatDoor
def perHas (t:Int) (p:Per):Bool:=decide (p.from_≤t)&&decide (t<p.to_)
def levStep (d:Nat) (x:Int) (q:List Int×List Per):List Int×List Per :=
 (q.1.take d++List.replicate (d - q.1.length) x,q.2++(q.1.drop d).reverse.map fun s=>⟨s,x⟩)
def levOf (P:List Int) (f:Nat→Nat):Nat→List Int×List Per
 |0=>([],[])
 |k+1=>levStep (f k) P[k]! (levOf P f k)
def levCnt (t:Int) (q:List Int×List Per):Nat:=(q.2.filter (perHas t)).length+(q.1.filter fun s=>decide (s≤t)).length
def gAt (P:List Int) (f:Nat→Nat):Nat→Int→Nat
 |0,_=>0
 |k+1,t=>if P[k]! ≤t then f k else gAt P f k t
def perT (p:Per):Tup:=⟨[],p.from_,p.to_,[]⟩
def levPts (ps:List Per):List Int:=pts (ps.map perT)
def levF (ps:List Per) (i:Nat):Nat:=cntAt (ps.map perT) (levPts ps)[i]!
def levels (ps:List Per):List Per:=(levOf (levPts ps) (levF ps) (levPts ps).length).2
end Go.Proofs.YtombmdaohcjokaaGreatDoor
namespace Go.Proofs.YtombmdaohcjokaaGreatDoor
open Go.RowKit
def tupRow (t:Tup):Row:=⟨t.vals,t.lin⟩
def sliceRows (l:List Tup) (x:Int):List Row:=(l.filter (holdsAt x)).map tupRow
end Go.Proofs.YtombmdaohcjokaaGreatDoor
namespace Go.Proofs.YtombmdaohcjokaaGreatDoor
open Go.RowKit
def tupOf (r:Row) (p:Per):Tup:=⟨r.vals,p.from_,p.to_,r.lin⟩
def cmpTup (a b:Tup):Int:=orI [cmpRow (tupRow a) (tupRow b),cmpI a.from_ b.from_,cmpI a.to_ b.to_]
theorem flat_congr {α β:Type} {f g:α→List β} {l:List α} (h : ∀x∈l,f x=g x):l.flatMap f=l.flatMap g:=by
 induction l with
 |nil=>rfl
 |cons x l ih=>rw [List.flatMap_cons,List.flatMap_cons,h x (by simp),ih fun y hy=>h y (by simp [hy])]
section
open Classical
noncomputable def once {α:Type}:List α→List α
 |[]=> []
 |x::l=>if x∈l then once l else x::once l
noncomputable def persOf (r:Row) (l:List Tup):List Per:=((l.filter validT).filter fun t=>decide (tupRow t=r)).map tupPer
noncomputable def rowsOf (l:List Tup):List Row:=once ((l.filter validT).map tupRow)
noncomputable def normRaw (ks:List Row) (l:List Tup):List Tup:=ks.flatMap fun r=>(levels (persOf r l)).map (tupOf r)
noncomputable def normT (l:List Tup):List Tup:=sortBy cmpTup (normRaw (rowsOf l) l)
end
end Go.Proofs.YtombmdaohcjokaaGreatDoor
namespace Go.Proofs.YtombmdaohcjokaaGreatDoor
open Go.RowKit
def clip1 (t:Tup):Option Tup:=if validT t=true∧max t.from_ 0<min t.to_ 1000000 then some ⟨t.vals,max t.from_ 0,min t.to_ 1000000,t.lin⟩else none
def clipT (l:List Tup):List Tup:=l.filterMap clip1
def gRow (aggV:List (List Val)→List Val) (kv:List Val) (ms:List Tup) (t:Int):Row:=⟨kv++aggV ((ms.filter (holdsAt t)).map Tup.vals),mergeL ((ms.filter (holdsAt t)).flatMap Tup.lin) []⟩
def dayT:Tup:=⟨[],0,1000000,[]⟩
def gPts (always:Bool) (ms:List Tup):List Int:=if always=true then pts (dayT::ms)else pts ms
def gHas (always:Bool) (ms:List Tup) (t:Int):Bool:=always||ms.any (holdsAt t)
def gUpto (aggV:List (List Val)→List Val) (always:Bool) (P:List Int) (kv:List Val) (ms:List Tup):Nat→List Tup
 |0=> []
 |k+1=>gUpto aggV always P kv ms k++if gHas always ms P[k]! = true then [tupOf (gRow aggV kv ms P[k]!) ⟨P[k]!,P[k+1]!⟩]else []
def gOut (aggV:List (List Val)→List Val) (always:Bool) (kv:List Val) (ms:List Tup):List Tup:=gUpto aggV always (gPts always ms) kv ms ((gPts always ms).length - 1)
section
open Classical
variable (proj:List Val→List Val) (aggV:List (List Val)→List Val) (always:Bool)
noncomputable def gMem (l:List Tup) (kv:List Val):List Tup:=(clipT l).filter fun t=>decide (proj t.vals=kv)
noncomputable def gKeys (l:List Tup):List (List Val):=if always=true then [[]]else once ((clipT l).map fun t=>proj t.vals)
noncomputable def aggRaw (l:List Tup):List Tup:=(gKeys proj always l).flatMap fun kv=>gOut aggV always kv (gMem proj l kv)
noncomputable def aggT (l:List Tup):List Tup:=normT (aggRaw proj aggV always l)
end
end Go.Proofs.YtombmdaohcjokaaGreatDoor
namespace Go.Proofs.YtombmdaohcjokaaGreatDoor
open Go.Lib
def numCh (c:UInt8):Bool:=decide (c=45)||(decide (48≤c.toNat)&&decide (c.toNat≤57))
theorem digit_ch {d:Nat} (h:d<10):(UInt8.ofNat (48+d)).toNat=48+d:=by
 simp only [UInt8.toNat_ofNat']
 omega
theorem digits_ch (u:Nat) : ∀c∈decDigits u,48≤c.toNat∧c.toNat≤57:=by
 induction u using decDigits.induct with
 |case1 u h =>
  rw [decDigits,dif_pos h]
  intro c hc
  rw [List.mem_singleton]at hc
  subst hc
  rw [digit_ch h]
  omega
 |case2 u h ih =>
  rw [decDigits,dif_neg h]
  intro c hc
  rcases List.mem_append.1 hc with hc | hc
  ·exact ih c hc
  ·rw [List.mem_singleton]at hc
   subst hc
   rw [digit_ch (by omega)]
   omega
def readDec (l:List UInt8):Nat:=l.foldl (fun v c=>v*10+(c.toNat - 48)) 0
theorem readDec_digits (u:Nat):readDec (decDigits u)=u:=by
 induction u using decDigits.induct with
 |case1 u h =>
  rw [decDigits,dif_pos h]
  show 0*10+((UInt8.ofNat (48+u)).toNat - 48)=u
  rw [digit_ch h]
  omega
 |case2 u h ih =>
  rw [decDigits,dif_neg h]
  unfold readDec at ih ⊢
  rw [List.foldl_append,ih]
  show u / 10*10+((UInt8.ofNat (48+u % 10)).toNat - 48)=u
  rw [digit_ch (by omega)]
  omega
theorem digits_inj {u v:Nat} (h:decDigits u=decDigits v):u=v:=by rw [←readDec_digits u,h,readDec_digits]
theorem minus_digits {u v:Nat} (h:45::decDigits u=decDigits v):False:=by
 have:=digits_ch v 45 (by rw [←h];simp)
 have e:(45:UInt8).toNat=45:=rfl
 omega
theorem itoa_inj {a b:Int} (h:itoa a=itoa b):a=b:=by
 unfold itoa at h
 split at h <;> split at h
 ·injection h with _ h
  have:=digits_inj h
  omega
 ·exact(minus_digits h).elim
 ·exact(minus_digits h.symm).elim
 ·have:=digits_inj h
  omega
theorem itoa_ch (n:Int) : ∀c∈itoa n,numCh c=true:=by
 have key : ∀u,∀c∈decDigits u,numCh c=true:=fun u c hc=>by
  have:=digits_ch u c hc
  unfold numCh
  simp [this.1,this.2]
 unfold itoa
 split
 ·intro c hc
  rcases List.mem_cons.1 hc with rfl | hc
  ·rfl
  ·exact key _ c hc
 ·exact key _
def Over (x:List UInt8):Prop:= ∀c r,x=c::r→numCh c=false
theorem Over.cons {c:UInt8} {r:List UInt8} (h:numCh c=false):Over (c::r):=fun c' r' e=>by cases e;exact h
theorem take_num (n:Int) {x:List UInt8} (hx:Over x):(itoa n++x).takeWhile numCh=itoa n∧(itoa n++x).dropWhile numCh=x:=by
 rw [List.takeWhile_append_of_pos (itoa_ch n),List.dropWhile_append_of_pos (itoa_ch n)]
 cases x with
 |nil=>simp
 |cons c r=>rw [List.takeWhile_cons_of_neg (by rw [hx c r rfl];decide),List.dropWhile_cons_of_neg (by rw [hx c r rfl];decide)];simp
theorem split_num {a b:Int} {x y:List UInt8} (hx:Over x) (hy:Over y) (h:itoa a++x=itoa b++y):a=b∧x=y:=by
 obtain⟨h1,h2⟩:=take_num a hx
 obtain⟨h3,h4⟩:=take_num b hy
 rw [h]at h1 h2
 exact⟨itoa_inj (h1.symm.trans h3),h2.symm.trans h4⟩
def keyVal (v:Val):List UInt8:=itoa v.kind++44::(itoa v.n++44::(itoa v.s.size++58::v.s.data.toList))
def keyVals (vs:List Val):List UInt8:=vs.flatMap keyVal
def keyLin (l:List Int):List UInt8:=l.flatMap fun id=>44::itoa id
def keyRow (r:Row):List UInt8:=itoa r.vals.length++59::(keyVals r.vals++keyLin r.lin)
theorem keyVal_inj {v u:Val} {x y:List UInt8} (h:keyVal v++x=keyVal u++y):v=u∧x=y:=by
 unfold keyVal at h
 simp only [List.append_assoc,List.cons_append]at h
 obtain⟨h1,h⟩:=split_num (Over.cons (by decide)) (Over.cons (by decide)) h
 injection h with _ h
 obtain⟨h2,h⟩:=split_num (Over.cons (by decide)) (Over.cons (by decide)) h
 injection h with _ h
 obtain⟨h3,h⟩:=split_num (Over.cons (by decide)) (Over.cons (by decide)) h
 injection h with _ h
 have hl:v.s.data.toList.length=u.s.data.toList.length:=by
  have e1:v.s.data.toList.length=v.s.size:=Array.length_toList
  have e2:u.s.data.toList.length=u.s.size:=Array.length_toList
  omega
 obtain⟨h4,h5⟩:=List.append_inj h hl
 obtain⟨k1,n1,⟨⟨s1⟩⟩⟩:=v
 obtain⟨k2,n2,⟨⟨s2⟩⟩⟩:=u
 simp only at h1 h2 h4
 subst h1 h2 h4
 exact⟨rfl,h5⟩
end Go.Proofs.YtombmdaohcjokaaGreatDoor
namespace Go.Proofs.YtombmdaohcjokaaGreatDoor
open Go.RowKit Go.Maps
open Classical in
noncomputable def rawR (S:Value→Prop) (v:Value):Option (DataW Value×List MemPlace):=if S v then some (.held v,[])else none
theorem rawR_mk {S:Value→Prop} {v:Value} (h:S v):rawR S v=some (.held v,[]):=by unfold rawR;rw [if_pos h]
theorem rawR_inv {S:Value→Prop} {v:Value} {y:DataW Value×List MemPlace} (h:rawR S v=some y):S v∧y=(.held v,[]):=by
 unfold rawR at h
 split at h
 ·rename_i hs
  exact⟨hs,(Option.some.inj h).symm⟩
 ·cases h
def readV (o:Option Value) (z:DataW Value):DataW Value:=match o with | some v=> .held v | none=>z
def Reads (D:DataW Value) (m:Lit→Option Value):Prop:=IsMap D∧ ∀kl,WideAt.IsKeyLit kl→ ∀z,D.atKey kl z=readV (m kl) z
theorem Reads.empty:Reads (.map []) fun _=>none:=⟨isMap_empty,fun _ _ _=>rfl⟩
open Classical in
noncomputable def putV (m:Lit→Option Value) (kl:Lit) (v:Value):Lit→Option Value:=fun z=>if z=kl then some v else m z
theorem putV_same (m:Lit→Option Value) (kl:Lit) (v:Value):putV m kl v kl=some v:=if_pos rfl
theorem putV_other (m:Lit→Option Value) {kl z:Lit} (v:Value) (h:z≠kl):putV m kl v z=m z:=if_neg h
theorem Reads.put {D:DataW Value} {m:Lit→Option Value} (h:Reads D m) {kl:Lit} (hk:WideAt.IsKeyLit kl) (v:Value):Reads (D.put kl (.held v)) (putV m kl v):=by
 refine⟨h.1.put _ _,fun z hz zd=> ?_⟩
 by_cases e:z=kl
 ·subst e
  rw [atKey_put_same h.1 hk,putV_same]
  rfl
 ·rw [atKey_put_other e,putV_other m v e]
  exact h.2 z hz zd
theorem Reads.has {D:DataW Value} {m:Lit→Option Value} (h:Reads D m) {kl:Lit} (hk:WideAt.IsKeyLit kl):Maps.has D kl=(m kl).isSome:=by
 cases hm:m kl with
 |none=>exact has_false_of_atKey fun z=>by rw [h.2 kl hk z,hm];rfl
 |some v=>exact has_true_of_atKey (y:= .held v) fun z=>by rw [h.2 kl hk z,hm];rfl
def MapV (w:World) (P:Program) (k:TypeId) (S:Value→Prop) (b n:Nat) (m:Lit→Option Value):Prop:= ∃D,w.ownsMap P k (rawR S) b n D∧Reads D m
theorem MapV.made (w:World) (P:Program) (k:TypeId) (S:Value→Prop):MapV (w.alloc (.map #[] 0)) P k S w.heap.size 0 fun _=>none:=⟨_,World.ownsMap_made w P k _,Reads.empty⟩
theorem MapV.lt {w:World} {P:Program} {k:TypeId} {S:Value→Prop} {b n:Nat} {m:Lit→Option Value} (h:MapV w P k S b n m):b<w.heap.size:=by obtain⟨D,h1,_⟩:=h;exact h1.lt
theorem MapV.kept {w w':World} {P:Program} {k:TypeId} {S:Value→Prop} {b n:Nat} {m:Lit→Option Value} {row:Option Nat} (h:MapV w P k S b n m) (hg:w.grownBy w' row) (hne:some b≠row):MapV w' P k S b n m:=by
 obtain⟨D,h1,h2⟩:=h
 exact⟨D,h1.kept hg hne,h2⟩
theorem MapV.alloc {w:World} {P:Program} {k:TypeId} {S:Value→Prop} {b n:Nat} {m:Lit→Option Value} (h:MapV w P k S b n m) (o:Obj):MapV (w.alloc o) P k S b n m:=by
 obtain⟨D,h1,h2⟩:=h
 exact⟨D,h1.alloc o,h2⟩
theorem wpList_store_v {P:Program} (w:World) {ops:Array Oper} {rest:List Oper} {o:Oper} {a:Act} {Q:Exit→Act→World→Prop}
  (hg:o.guard=none) (m x v:Operand) (t:TypeId) (hop:o.op=Op.mapUpdate t m x v)
  (k e:TypeId) (K:Go.Maps.Keyed P k) (ht:P.underlying t=some (.map k e)) (S:Value→Prop) (b n:Nat) (mp:Lit→Option Value)
  (hm:a.eval m = .map (some b)) (hown:MapV w P k S b n mp) (hn:n<maxLen) (key val:Value) (kl:Lit) (hx:a.eval x=key) (hv:a.eval v=val) (hkey:keyOf P k key=some kl) (hval:S val)
  (hK : ∀w',MapV w' P k S b (n+1) (putV mp kl val)→w.grownBy w' (some b)→wpList P ops Q rest (a.put o.dst undef) w') :
  wpList P ops Q (o::rest) a w:=by
 obtain⟨D,h1,h2⟩:=hown
 exact wpList_mapUpdate_own w hg m x v t hop k e K ht (rawR S) b n D hm h1 hn key val kl hx hv hkey (.held val) [] (rawR_mk hval) fun w' h3 h4=>hK w' ⟨_,h3,h2.put (K.key hkey) val⟩ h4
def RangeV (w:World) (P:Program) (k:TypeId) (S:Value→Prop) (b r n:Nat) (m:Lit→Option Value) (left:Lit→Bool) (cnt:Nat):Prop:= ∃D,w.ranges P k (rawR S) b r n D left cnt∧Reads D m
end Go.Proofs.YtombmdaohcjokaaGreatDoor
namespace Go.Proofs.YtombmdaohcjokaaGreatDoor
open Go.RowKit
structure Evt where
 at_:Int
 d:Int
def evtsOf (ps:List Per):List Evt:=ps.flatMap fun p=> [⟨p.from_,1⟩,⟨p.to_,-1⟩]
def dsum:List Evt→Int
 |[]=>0
 |e::l=>e.d+dsum l
def upto (es:List Evt) (x:Int):Nat:=es.countP fun e=>decide (e.at_≤x)
def idxOf (es:List Evt) (P:List Int):Nat→Nat
 |0=>0
 |k+1=>upto es P[k]!
structure EvtsAt (ps:List Per) (es:List Evt):Prop where
 perm:es.Perm (evtsOf ps)
 srt:es.Pairwise fun a b=>a.at_≤b.at_
 ok : ∀p∈ps,validB p.from_ p.to_=true
end Go.Proofs.YtombmdaohcjokaaGreatDoor
namespace Go.Proofs.YtombmdaohcjokaaGreatDoor
open Go.RowKit Go.Shelf Go.Sort
def okI (x:Int):Prop:= -9223372036854775808≤x∧x≤9223372036854775807
def perEnc (x:Per):List Value:= [.int .i64 x.from_,.int .i64 x.to_]
def Rep.per:Rep Per where
 size:=2
 holds _ cs x:=cs=perEnc x∧okI x.from_∧okI x.to_
 len:=by rintro w cs x ⟨rfl,_⟩;rfl
 ext:=by rintro w w' cs x h _;exact h
 one:=by rintro w cs x ⟨rfl,_⟩;simp [perEnc,Value.oneCell']
end Go.Proofs.YtombmdaohcjokaaGreatDoor
namespace Go.Proofs.YtombmdaohcjokaaGreatDoor
open Go.RowKit
structure Chg (C:Nat→Prop) (w w':World):Prop where
 os:w'.os=w.os
 tape:w'.tape=w.tape
 output:w'.output=w.output
 size:w.heap.size≤w'.heap.size
 block : ∀k,k<w.heap.size→ ¬C k→w'.heap[k]?=w.heap[k]?
theorem Chg.refl (C:Nat→Prop) (w:World):Chg C w w:=⟨rfl,rfl,rfl,Nat.le_refl _,fun _ _ _=>rfl⟩
theorem Chg.trans {C:Nat→Prop} {a b c:World} (h:Chg C a b) (k:Chg C b c):Chg C a c :=
 ⟨k.os.trans h.os,k.tape.trans h.tape,k.output.trans h.output,Nat.le_trans h.size k.size,fun i hi hc=>(k.block i (Nat.lt_of_lt_of_le hi h.size) hc).trans (h.block i hi hc)⟩
theorem Ext.chg {a b:World} (h:Ext a b) (C:Nat→Prop):Chg C a b:=⟨h.os,h.tape,h.output,h.size,fun k hk _=>h.block k hk⟩
theorem chg_set (w:World) (p:Addr) (u:Value):Chg (fun k=>k=p.block) w (w.setCell p u):=⟨rfl,rfl,rfl,by simp [World.setCell],fun k _ hc=>Below.heap_setCell _ _ _ _ hc⟩
theorem Chg.drew {C:Nat→Prop} {a w:World} (h:Chg C a w):Chg C a w.drew:=⟨h.os,h.tape,h.output,h.size,h.block⟩
theorem Chg.alloc {C:Nat→Prop} {a w:World} (h:Chg C a w) (o:Obj):Chg C a (w.alloc o):=h.trans (((Ext.refl w).alloc o).chg C)
theorem Chg.ext {C:Nat→Prop} {a w w':World} (h:Chg C a w) (k:Ext w w'):Chg C a w':=h.trans (k.chg C)
theorem Chg.setCell {C:Nat→Prop} {a w:World} (h:Chg C a w) {p:Addr} (hp:C p.block∨a.heap.size≤p.block) (u:Value):Chg C a (w.setCell p u) :=
 ⟨h.os,h.tape,h.output,Nat.le_trans h.size (by simp [World.setCell]),fun k hk hc=>by
  rw [Below.heap_setCell]
  ·exact h.block k hk hc
  ·rintro rfl;rcases hp with hp | hp
   ·exact hc hp
   ·omega⟩
theorem Chg.grown {C:Nat→Prop} {a w w':World} {row:Option Nat} (h:Chg C a w) (hg:w.grownBy w' row) (hr : ∀k,row=some k→C k∨a.heap.size≤k):Chg C a w' :=
 ⟨hg.os.trans h.os,hg.tape.trans h.tape,hg.output.trans h.output,Nat.le_trans h.size hg.size,fun k hk hc=>by
  rw [hg.block k (Nat.lt_of_lt_of_le hk h.size) (fun e=>by rcases hr k e.symm with hr | hr;exact hc hr;omega)]
  exact h.block k hk hc⟩
theorem Chg.at {C:Nat→Prop} {w w':World} (h:Chg C w w') {p:Addr} {v:Value} (hc:w.cell? p=some v) (hn : ¬C p.block):w'.cell? p=some v :=
 (World.cell?_of_block (w:=w) (h.block p.block (World.block_lt_of_cell? w p hc) hn)).trans hc
theorem Chg.free {C:Nat→Prop} {w w':World} (h:Chg C w w') {p:Addr} {v:Value} (hc:w.cell? p=some v) (hf:w.frozen? p=false) (hn : ¬C p.block):w'.frozen? p=false :=
 (World.frozen?_of_block (w:=w) (h.block p.block (World.block_lt_of_cell? w p hc) hn)).trans hf
theorem Chg.below {C:Nat→Prop} {a w w':World} (h:Chg C w w') (k:Ext a w) (hC : ∀b,C b→a.heap.size≤b):Ext a w' :=
 ⟨h.os.trans k.os,h.tape.trans k.tape,h.output.trans k.output,Nat.le_trans k.size h.size,fun b hb=>(h.block b (Nat.lt_of_lt_of_le hb k.size) fun hc=>by have:=hC b hc;omega).trans (k.block b hb)⟩
theorem Chg.own {C:Nat→Prop} {w w':World} (h:Chg C w w') {base:Nat} {e:TypeId} {size:Nat} {v:Value} {n:Nat} {xs:List Value} (hv:w.ownsRow base e size v n xs) (hn : ∀k,v.ownBlock=some k→ ¬C k):w'.ownsRow base e size v n xs:=by
 refine⟨hv.1,?_⟩
 rcases hv.2 with h2 | ⟨g,cap,cur,he,hb,hg,r⟩
 ·exact .inl h2
 ·exact .inr ⟨g,cap,cur,he,hb,by rw [h.block g (Array.getElem?_eq_some_iff.1 hg).1 (hn g (by rw [he];rfl))];exact hg,r⟩
theorem OwnOf.chg {α:Type} {R:Rep α} (hR:R.flat) {C:Nat→Prop} {w w':World} {S:Nat→Prop} {base:Nat} {e:TypeId} {v:Value} {xs:List α} (h:OwnOf R w S base e v xs) (hx:Chg C w w') (hn : ∀k,v.ownBlock=some k→ ¬C k):OwnOf R w' S base e v xs:=by
 obtain⟨css,h1,h2⟩:=h
 exact⟨css,h1.flatView hR,hx.own h2 hn⟩
theorem SliceOf.chg {α:Type} {R:Rep α} {C:Nat→Prop} {w w':World} {S:Nat→Prop} {v:Value} {xs:List α} (h:SliceOf R (on w S) v xs) (hx:Chg C w w') (hS : ∀k,S k→ ¬C k):SliceOf R (on w' S) v xs :=
 h.ext fun p u e=>by
  obtain⟨h1,h2⟩:=on_some.1 e
  exact on_some.2 ⟨h1,hx.at h2 (hS _ h1)⟩
theorem OwnOf.form {α:Type} {R:Rep α} {w:World} {S:Nat→Prop} {base:Nat} {e:TypeId} {v:Value} {xs:List α} (h:OwnOf R w S base e v xs):(v = .slice none 0 0∧xs = [])∨ ∃g cap,v = .slice (some ⟨g,0,none⟩) xs.length cap∧base≤g∧xs.length≤cap∧cap≤maxLen:=by
 obtain⟨css,h1,_,h2⟩:=h
 rcases h2 with ⟨rfl,h2⟩ | ⟨g,cap,cur,rfl,hb,hg,h3,h4,_⟩
 ·exact .inl ⟨rfl,List.eq_nil_of_length_eq_zero h2⟩
 ·exact .inr ⟨g,cap,rfl,hb,h3,h4⟩
end Go.Proofs.YtombmdaohcjokaaGreatDoor
namespace Go.Proofs.YtombmdaohcjokaaGreatDoor
open Go.RowKit
end Go.Proofs.YtombmdaohcjokaaGreatDoor
namespace Go.Proofs.YtombmdaohcjokaaGreatDoor
open Go.RowKit
section
variable {P:Program} {w:World} {o:Oper} {a:Act} {K:Act→World→Prop} {Q:Exit→Act→World→Prop} {E:Prop}
theorem key_op {yd:Nat→Option Bool} (n:Nat) {op:Op} {ty:TypeId} {pos:String} {after:Array Edge} {g:Option (Nat×Bool)} (h:if Region.wanted ⟨some n,op,ty,pos,after,g⟩ yd=true then Oper.wp P ⟨some n,op,ty,pos,after,g⟩ a w K Q else E) :
 if Region.wanted ⟨some n,op,ty,pos,after,g⟩ yd=true then Oper.wp P ⟨some n,op,ty,pos,after,g⟩ a w K Q else E:=h
theorem step_append_all {α:Type} {yd:Nat→Option Bool} (R:Rep α) (S:Nat→Prop) (hgd:o.guard=none) (s x:Operand) (t:TypeId)
  (ho:o.op = .call { callee:= .builtin .append,args:= #[s,x],argTypes:= #[t,t] })
  (base:Nat) (e:TypeId) (i:TypeInfo) (z:Value) (bytes:Nat) (ht:P.underlying t=some (.slice e)) (hi:P.info? e=some i) (hz:i.zero=some z)
  (hsize:i.size=R.size) (hby:i.bytes=bytes) (hzs:z.cells.size=R.size) (hsz:0<R.size)
  (v:Value) (xs:List α) (hs:a.eval s=v) (hown:OwnOf R w S base e v xs)
  (u:Value) (ys:List α) (hx:a.eval x=u) (hy:SliceOf R (on w (avoid S v)) u ys)
  (h63:xs.length+ys.length≤maxLen) (hbytes:(xs.length+ys.length)*bytes≤140737488355328) (hbase:base≤w.heap.size)
  (h : ∀v' w',OwnOf R w' S base e v' (xs++ys)→w.grownBy w' v.ownBlock→(v'.ownBlock=v.ownBlock∨v'.ownBlock=some w.heap.size)→K (a.put o.dst v') w') :
  if Region.wanted o yd=true then Oper.wp P o a w K Q else E:=by
 have hw:Region.wanted o yd=true:=by simp [Region.wanted,hgd]
 rw [if_pos hw]
 obtain⟨css,h1,h2⟩:=hown
 obtain⟨dss,h3,h4⟩:=hy
 rcases h4.src with ⟨rfl,hn,hd⟩ | ⟨ad,cap,rfl,_,_,hc⟩
 ·have hys:ys = []:=List.eq_nil_of_length_eq_zero hn
  subst hys
  have hrun:=run_append_owned_none (P:=P) (w:=w) base t o.type e i R.size ht hi v xs.length css.flatten h2
  unfold Oper.wp
  simp [execOp,ho,resolve,invoke,builtin,hs,hx,hrun,Result.andThen]
  exact h v w (by rw [List.append_nil];exact⟨css,h1,h2⟩) ⟨rfl,rfl,rfl,Nat.le_refl _,fun _ _ _=>rfl⟩ (.inl rfl)
 ·obtain⟨v',w',hr,g1,g2,_,g3⟩:=run_append_own_at (P:=P) w base t o.type e i z R.size bytes ht hi hz hsize hby hzs hsz v xs.length css.flatten h2 ad ys.length cap dss.flatten h3.flat (fun j u hj=>(on_some.1 (hc j u hj)).2) h3.ones h63 hbytes hbase
  unfold Oper.wp execOp
  simp only [ho,resolve,invoke,builtin,Sem.run_bind,Sem.run_pure,Result.andThen_ok,List.map_toArray,List.map_cons,List.map_nil,hs,hx,hr]
  exact h v' w' (OwnOf.pushAll h1 h3 g1 g2 g3) g2 g3
end
theorem Ext.grownNew {a w w':World} {v:Value} (h:Ext a w) (hg:w.grownBy w' v.ownBlock) (hv : ∀k,v.ownBlock=some k→a.heap.size≤k):Ext a w' :=
 Below.grown h hg h.size hv
theorem OwnOf.base {α:Type} {R:Rep α} {w:World} {S:Nat→Prop} {base:Nat} {e:TypeId} {v:Value} {xs:List α} (h:OwnOf R w S base e v xs) : ∀k,v.ownBlock=some k→base≤k:=fun k hk=>(h.lt k hk).1
theorem int_lone (h:View) (b:Nat) (x:Int) (hr : -9223372036854775808≤x∧x≤9223372036854775807) (h0:h ⟨b,0,none⟩=some (.int .i64 x)):SliceOf Rep.int h (.slice (some ⟨b,0,none⟩) 1 1) [x] :=
 ⟨[[.int .i64 x]],⟨⟨rfl,hr⟩,trivial⟩,.inr ⟨_,1,rfl,Nat.le_refl _,by simp [maxLen],.inr ⟨b,0,rfl,fun j u hj=>by
  match j,hj with
  |0,hj=>simp at hj;rw [←hj];exact h0⟩⟩⟩
theorem slice_lit {α:Type} (R:Rep α) (w:World) (cells:List Value) (T:TypeId) (css:List (List Value)) (xs:List α) (hc:css.flatten=cells) (h:RepAll R (w.alloc (.cells cells.toArray T)).cell? css xs) (hl:xs.length≤maxLen) :
  SliceOf R (w.alloc (.cells cells.toArray T)).cell? (.slice (some ⟨w.heap.size,0,none⟩) xs.length xs.length) xs:=by
 refine⟨css,h,.inr ⟨_,_,rfl,Nat.le_refl _,hl,.inr ⟨_,0,rfl,fun j u hj=> ?_⟩⟩⟩
 rw [World.cell?_alloc_at _ _ _ _ rfl]
 rw [hc]at hj
 simpa using hj
end Go.Proofs.YtombmdaohcjokaaGreatDoor
namespace Go.Proofs
open Go.Shelf
def Tryz.sortTups_ren:Go.Shelf.Ren:=⟨fun | 6=>133 | 15=>118 | 14=>188 | 28=>172 | 29=>173 | 20=>236 | 21=>237 | 22=>238 | 23=>239 | 24=>240 | 25=>241 | 26=>242 | 27=>243 | 46=>276 | 47=>216 | 48=>217 | 49=>277 | 50=>278 | 57=>310 | n=>n,fun | 22=>85 | 24=>125 | 25=>209 | 3=>3 | 39=>185 | 0=>0 | 53=>247 | 55=>249 | 4=>4 | 46=>240 | 45=>239 | 50=>229 | 5=>5 | 9=>9 | 66=>301 | 70=>305 | 76=>349 | 77=>224 | n=>n,fun | n=>n⟩
def Tryz.sortEvts_ren:Go.Shelf.Ren:=⟨fun | 6=>186 | 15=>118 | 14=>235 | 28=>172 | 29=>173 | 20=>268 | 21=>269 | 22=>270 | 23=>271 | 24=>272 | 25=>273 | 26=>274 | 27=>275 | 46=>307 | 47=>216 | 48=>217 | 49=>308 | 50=>309 | 57=>321 | n=>n,fun | 22=>256 | 24=>258 | 25=>260 | 3=>3 | 39=>185 | 0=>0 | 53=>247 | 55=>249 | 4=>4 | 46=>240 | 45=>239 | 50=>229 | 5=>5 | 9=>9 | 66=>301 | 70=>305 | 76=>349 | 77=>224 | n=>n,fun | n=>n⟩
end Go.Proofs
namespace Go.Proofs.YtombmdaohcjokaaGreatDoor
open Go.RowKit Go.Shelf Go.Sort
def Rep.evt:Rep Evt where
 size:=2
 holds _ cs x:=cs = [.int .i64 x.at_,.int .i64 x.d]∧okI x.at_∧okI x.d
 len:=by rintro w cs x ⟨rfl,_⟩;rfl
 ext:=by rintro w w' cs x h _;exact h
 one:=by rintro w cs x ⟨rfl,_⟩;simp [Value.oneCell']
def cmpEvt (x y:Evt):Int:=cmpI x.at_ y.at_
def Apart (v u:Value):Prop:= ∀k,v.ownBlock=some k→u.ownBlock≠some k
theorem Apart.symm {v u:Value} (h:Apart v u):Apart u v:=fun k hk hv=>h k hv hk
theorem Apart.grow {v u:Value} {g n a b:Nat} (h:Apart v u) (hlt : ∀k,v.ownBlock=some k→k<n) (hg:u.ownBlock=some g∨g=n):Apart v (.slice (some ⟨g,0,none⟩) a b):=fun k hk e=>by
 have e:g=k:=Option.some.inj e
 subst e
 rcases hg with hg | hg
 ·exact h _ hk hg
 ·have:=hlt _ hk;omega
theorem lit_new {α:Type} {R:Rep α} (w:World) (cells:List Value) (T:TypeId) (css:List (List Value)) (xs:List α) (hc:css.flatten=cells) (h : ∀hw,RepAll R hw css xs) (hl:xs.length≤maxLen) {v:Value} (hv : ∀k,v.ownBlock=some k→k<w.heap.size) :
  SliceOf R (on (w.alloc (.cells cells.toArray T)) (avoid (fun _=>True) v)) (.slice (some ⟨w.heap.size,0,none⟩) xs.length xs.length) xs:=by
 refine⟨css,h _,.inr ⟨_,_,rfl,Nat.le_refl _,hl,.inr ⟨_,0,rfl,fun j u hj=>on_some.2 ⟨⟨fun e=>Nat.lt_irrefl _ (hv _ e.symm),trivial⟩,?_⟩⟩⟩⟩
 rw [World.cell?_alloc_at _ _ _ _ rfl]
 rw [hc]at hj
 simpa using hj
theorem OwnOf.shapeL {α:Type} {R:Rep α} {w:World} {S:Nat→Prop} {base:Nat} {e:TypeId} {v:Value} {xs:List α} (h:OwnOf R w S base e v xs) : ∃p c,v = .slice p xs.length c∧(0<xs.length→ ∃g,p=some ⟨g,0,none⟩):=by
 rcases h.form with ⟨rfl,rfl⟩ | ⟨g,cap,rfl,_⟩
 ·exact⟨_,_,rfl,fun h=>by cases h⟩
 ·exact⟨_,_,rfl,fun _=>⟨_,rfl⟩⟩
end Go.Proofs.YtombmdaohcjokaaGreatDoor
namespace Go.Proofs.YtombmdaohcjokaaGreatDoor
open Go.RowKit Go.Maps
open Classical
def keyL (r:Row):Lit:= .string (keyRow r)
structure RawRow where
 p:Option Addr
 n:Nat
 c:Nat
 q:Option Addr
 m:Nat
 d:Nat
def mkRow (x:RawRow):Value:= .agg #[.slice x.p x.n x.c,.slice x.q x.m x.d]
def ShRow (v:Value):Prop:= ∃x,v=mkRow x
def ShSl (v:Value):Prop:= ∃p n c,v = .slice p n c
def RowV (w:World) (x:RawRow) (r:Row):Prop:=x.n=r.vals.length∧x.m=r.lin.length∧SliceOf Rep.val w.cell? (.slice x.p r.vals.length x.c) r.vals∧SliceOf Rep.int w.cell? (.slice x.q r.lin.length x.d) r.lin
structure NInv (w w':World) (base:Nat) (T:TypeId) (l:List Tup) (m1 m2:Lit→Option Value):Prop where
 k1 : ∀kl v,m1 kl=some v→ ∃t∈l,validT t=true∧kl=keyL (tupRow t)∧ ∃x,v=mkRow x∧RowV w x (tupRow t)
 k2 : ∀t∈l,validT t=true→(m1 (keyL (tupRow t))).isSome=true
 p1 : ∀kl v,m2 kl=some v→ ∃t∈l,validT t=true∧kl=keyL (tupRow t)∧OwnOf Rep.per w' (fun _=>True) base T v (persOf (tupRow t) l)
 p2 : ∀t∈l,validT t=true→(m2 (keyL (tupRow t))).isSome=true
 ap : ∀kl kl' v v',kl≠kl'→m2 kl=some v→m2 kl'=some v'→Apart v v'
def DoneR (m1:Lit→Option Value) (left:Lit→Bool) (done:List Row):Prop:=done.Nodup∧ ∀r,r∈done↔(m1 (keyL r)).isSome=true∧left (keyL r)=false
end Go.Proofs.YtombmdaohcjokaaGreatDoor
