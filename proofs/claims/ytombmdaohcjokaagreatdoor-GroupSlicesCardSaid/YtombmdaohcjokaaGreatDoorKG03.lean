/- joined texts of a proof: BagI, BagJ, BagK, ShelfB, BagL, BagS, PlainD, AreaP, PointP, PlainL, PlainR, PlainN, PlainG -/
import Derived.Test.YtombmdaohcjokaaGreatDoorKG02
import Derived.IntWalk
import Derived.Shelf.Spec.SlicesGrow
import Derived.Ground.Names8Prog
import Derived.Test.YtombmdaohcjokaaGreatDoorProg
import Derived.Sort.OwnSortedInts
import Derived.Lib.OwnBridge
import Derived.Lib.SlicesCompact
namespace Go.Proofs.YtombmdaohcjokaaGreatDoor
open Go.RowKit
set_option maxHeartbeats 2000000 in
theorem ref_compareRows (va vb:Value) (l l':List Val) (w:World) (ha:SliceOf Rep.val w.cell? va l) (hb:SliceOf Rep.val w.cell? vb l') :
  Calls Tryz.prog 36 #[va,vb] w
   fun e w'=>e = .returned (.int .i64 (cmpVals l l'))∧Gro w w':=by
 obtain⟨pa,ca,rfl,ha1,ha2,ha3⟩:=ha.form
 obtain⟨pb,cb,rfl,hb1,hb2,hb3⟩:=hb.form
 unfold maxLen at ha2 hb2
 go_enter Tryz.func36,Tryz.ntmps36
 go_wp2_with fail
 go_loopg [5] l.length (fun gk i wr=> ∃k:Nat,k≤l.length∧gk=l.length - k∧i = .int .i64 k∧(k≤l'.length∧cmpVals l l'=lexI cmpVal (l.drop k) (l'.drop k))∧Gro w wr)
 case atStart=>exact⟨0,by omega,rfl,rfl,⟨by omega,rfl⟩,Gro.refl w⟩
 case round =>
  obtain⟨k,hk,rfl,rfl,⟨hk2,hc⟩,hx⟩:=hrel
  have HC:=Lib.hid hc
  clear hc
  by_cases hlt:k<l.length∧k<l'.length
  ·obtain⟨hlt,hlt2⟩:=hlt
   obtain⟨ba,oa,rfl⟩:=ha3 (by decide) (by omega)
   obtain⟨c1,c2,c3⟩:=val_at ha k hlt
   replace c1:=hx.at c1
   replace c2:=hx.at c2
   replace c3:=hx.at c3
   have hd:decide ((k:Int)<(l.length:Int))=true:=by simp;omega
   have hd1:(k:Int)<(l.length:Int):=by omega
   obtain⟨bb,ob,rfl⟩:=hb3 (by decide) (by omega)
   obtain⟨d1,d2,d3⟩:=val_at hb k hlt2
   replace d1:=hx.at d1
   replace d2:=hx.at d2
   replace d3:=hx.at d3
   have hdr:=lexI_drop cmpVal l l' k hlt hlt2
   have hdb:decide ((k:Int)<(l'.length:Int))=true:=by simp;omega
   have hd2:(k:Int)<(l'.length:Int):=by omega
   generalize l[k]=x at c1 c2 c3 hdr
   generalize l'[k]=y at d1 d2 d3 hdr
   have HD:=Lib.hid hdr
   clear hdr ha hb ha3 hb3
   have hxr:=Gro.refl wr
   go_wp2_with fail
   go_region_held3 (fun w'=>Gro wr w'∧w'.cell? ⟨ba,oa+k*3,none⟩=some (.int .i64 x.kind)∧w'.cell? ⟨ba,oa+k*3+1,none⟩=some (.int .i64 x.n)∧w'.cell? ⟨ba,oa+k*3+2,none⟩=some (.string x.s)∧w'.cell? ⟨bb,ob+k*3,none⟩=some (.int .i64 y.kind)∧w'.cell? ⟨bb,ob+k*3+1,none⟩=some (.int .i64 y.n)∧w'.cell? ⟨bb,ob+k*3+2,none⟩=some (.string y.s))
    (first |exact⟨hxr.drew,c1,c2,c3,d1,d2,d3⟩ | assumption | exact keepG6 (by assumption) hx2)
    (first |(go_at_call 75;refine(ref_compare x y _).mono ?_;rintro e w2 ⟨rfl,hx2⟩))
   all_goals (obtain⟨hfin,_⟩:= ‹Gro wr _∧_›)
   all_goals (replace hx:=hx.trans hfin)
   all_goals clear c1 c2 c3 d1 d2 d3
   all_goals generalize hq:cmpVal x y=q
   all_goals (have HQ:=Lib.hid hq)
   all_goals clear hq
   all_goals by_cases hq0:q=0
   all_goals first
    |(have hqb:(q != 0)=false:=by simp [hq0]
      have HQ0:=Lib.hid hq0
      clear hq0
      go_wp2_with fail
      go_roundg (l.length - (k+1))
      case measure=>omega
      case rel=>exact⟨k+1,by omega,rfl,by go_num,⟨by omega,by rw [HC.out,HD.out,HQ.out,if_pos HQ0.out]⟩,hx⟩)
    |(have hqb:(q != 0)=true:=by simp [hq0]
      have HQ0:=Lib.hid hq0
      clear hq0
      go_wp2_with fail
      go_ret
      exact⟨ret_int (by rw [HC.out,HD.out,HQ.out,if_neg HQ0.out]),hx⟩)
  ·have hend:=lexI_done cmpVal l l' k hk hk2 hlt
   have HE:=Lib.hid hend
   clear hend
   by_cases hk3:k<l.length
   ·have hd:decide ((k:Int)<(l.length:Int))=true:=by simp;omega
    have hdb:decide ((k:Int)<(l'.length:Int))=false:=by simp;omega
    go_wp2_with fail
    all_goals go_ret
    all_goals exact⟨ret_int (by rw [HC.out,HE.out];(repeat' split) <;> first | rfl | omega),hx⟩
   ·have hd:decide ((k:Int)<(l.length:Int))=false:=by simp;omega
    go_wp2_with fail
    all_goals go_ret
    all_goals exact⟨ret_int (by rw [HC.out,HE.out];(repeat' split) <;> first | rfl | omega),hx⟩
theorem eqB_row (a b:Row):eqB a b=((cmpVals a.vals b.vals==0)&&(cmpInts a.lin b.lin==0)):=by
 rw [←cmpRow_zero]
 unfold cmpRow orI orI orI
 by_cases h1:cmpVals a.vals b.vals=0 <;> by_cases h2:cmpInts a.lin b.lin=0 <;> simp [h1,h2]
set_option maxHeartbeats 2000000 in
theorem ref_sameRow (va vb ua ub:Value) (a b:Row) (w:World) (ha:SliceOf Rep.val w.cell? va a.vals) (hb:SliceOf Rep.val w.cell? vb b.vals) (ka:SliceOf Rep.int w.cell? ua a.lin) (kb:SliceOf Rep.int w.cell? ub b.lin) :
  Calls Tryz.prog 66 #[.agg #[va,ua],.agg #[vb,ub]] w fun e w'=>e = .returned (.bool (eqB a b))∧Gro w w':=by
 have HA:=Lib.hid ha
 have HB:=Lib.hid hb
 have KA:=Lib.hid ka
 have KB:=Lib.hid kb
 have HE:=Lib.hid (eqB_row a b)
 obtain⟨pa,ca,rfl,_⟩:=ha.form
 obtain⟨pb,cb,rfl,_⟩:=hb.form
 obtain⟨qa,da,rfl,_⟩:=ka.form
 obtain⟨qb,db,rfl,_⟩:=kb.form
 generalize eqB a b=r at HE ⊢
 clear ha hb ka kb
 go_enter Tryz.func66,Tryz.ntmps66
 go_wp2_with fail
 have hx:=((Gro.refl w).alloc (.cells #[.slice pa a.vals.length ca,.slice qa a.lin.length da] 58)).alloc (.cells #[.slice pb b.vals.length cb,.slice qb b.lin.length db] 58)
 have c2:((w.alloc (.cells #[.slice pa a.vals.length ca,.slice qa a.lin.length da] 58)).alloc (.cells #[.slice pb b.vals.length cb,.slice qb b.lin.length db] 58)).cell? ⟨w.heap.size,1,none⟩=some (.slice qa a.lin.length da):=by go_simp
 have c4:((w.alloc (.cells #[.slice pa a.vals.length ca,.slice qa a.lin.length da] 58)).alloc (.cells #[.slice pb b.vals.length cb,.slice qb b.lin.length db] 58)).cell? ⟨w.heap.size+1,1,none⟩=some (.slice qb b.lin.length db):=by go_simp
 refine(ref_compareRows _ _ a.vals b.vals _ (HA.out.ext hx.ext.full) (HB.out.ext hx.ext.full)).mono ?_
 rintro e w1 ⟨rfl,hx1⟩
 replace hx:=hx.trans hx1
 replace c2:=hx1.at c2
 replace c4:=hx1.at c4
 clear hx1
 generalize cmpVals a.vals b.vals=q at HE ⊢
 by_cases hq:q=0
 ·subst hq
  go_wp2_with fail
  refine(ref_compareInts _ _ a.lin b.lin _ (KA.out.ext hx.ext.full) (KB.out.ext hx.ext.full)).mono ?_
  rintro e w2 ⟨rfl,hx2⟩
  replace hx:=hx.trans hx2
  clear hx2 c2 c4
  generalize cmpInts a.lin b.lin=q2 at HE ⊢
  go_wp2_with fail
  all_goals go_ret
  all_goals exact⟨ret_bool (by rw [HE.out];simp),hx⟩
 ·have hqb:(q==0)=false:=by simp [hq]
  have HQ:=Lib.hid hq
  clear hq
  go_wp2_with fail
  all_goals go_ret
  all_goals exact⟨ret_bool (by rw [HE.out];simp [HQ.out]),hx⟩
end Go.Proofs.YtombmdaohcjokaaGreatDoor
namespace Go.Proofs.YtombmdaohcjokaaGreatDoor
open Go.RowKit
set_option maxHeartbeats 2000000 in
theorem ref_sameRows (va vb:Value) (l l':List Row) (w:World) (ha:SliceOf Rep.row w.cell? va l) (hb:SliceOf Rep.row w.cell? vb l') :
  Calls Tryz.prog 23 #[va,vb] w fun e w'=>e = .returned (.bool (eqB l l'))∧Gro w w':=by
 obtain⟨pa,ca,rfl,ha1,ha2,ha3⟩:=ha.form
 obtain⟨pb,cb,rfl,hb1,hb2,hb3⟩:=hb.form
 unfold maxLen at ha2 hb2
 go_enter Tryz.func23,Tryz.ntmps23
 by_cases hlen:l.length=l'.length
 ·have hlb:((l.length:Int) != (l'.length:Int))=false:=by simp [hlen]
  have HLn:=Lib.hid hlen
  clear hlen
  go_wp2_with fail
  go_loopg [5] l.length (fun gk i wr=> ∃k:Nat,k≤l.length∧gk=l.length - k∧i = .int .i64 k∧eqB l l'=eqB (l.drop k) (l'.drop k)∧Gro w wr)
  case atStart=>exact⟨0,by omega,rfl,rfl,rfl,Gro.refl w⟩
  case round =>
   obtain⟨k,hk,rfl,rfl,hc,hx⟩:=hrel
   have HC:=Lib.hid hc
   clear hc
   by_cases hlt:k<l.length
   ·have hlt2:k<l'.length:=by have:=HLn.out;omega
    obtain⟨ba,oa,rfl⟩:=ha3 (by decide) (by omega)
    obtain⟨bb,ob,rfl⟩:=hb3 (by decide) (by omega)
    obtain⟨u1,u2,c1,c2,s1,s2⟩:=row_at ha k hlt
    obtain⟨v1,v2,d1,d2,t1,t2⟩:=row_at hb k hlt2
    have hdr:=eqB_drop l l' k hlt hlt2
    generalize l[k]=x at s1 s2 hdr
    generalize l'[k]=y at t1 t2 hdr
    replace c1:=hx.at c1
    replace c2:=hx.at c2
    replace d1:=hx.at d1
    replace d2:=hx.at d2
    replace s1:=s1.ext hx.ext.full
    replace s2:=s2.ext hx.ext.full
    replace t1:=t1.ext hx.ext.full
    replace t2:=t2.ext hx.ext.full
    have HD:=Lib.hid hdr
    have S1:=Lib.hid s1
    have S2:=Lib.hid s2
    have T1:=Lib.hid t1
    have T2:=Lib.hid t2
    obtain⟨p1,q1,rfl,_⟩:=s1.form
    obtain⟨p2,q2,rfl,_⟩:=s2.form
    obtain⟨p3,q3,rfl,_⟩:=t1.form
    obtain⟨p4,q4,rfl,_⟩:=t2.form
    have hd:decide ((k:Int)<(l.length:Int))=true:=by simp;omega
    have hd1:(k:Int)<(l.length:Int):=by omega
    have hd2:(k:Int)<(l'.length:Int):=by omega
    clear s1 s2 t1 t2 hdr ha hb ha3 hb3
    have hxr:=Gro.refl wr
    go_wp2_with fail
    go_region_held3 (fun w'=>Gro wr w'∧w'.cell? ⟨ba,oa+k*2,none⟩=some (.slice p1 x.vals.length q1)∧w'.cell? ⟨ba,oa+k*2+1,none⟩=some (.slice p2 x.lin.length q2)∧w'.cell? ⟨bb,ob+k*2,none⟩=some (.slice p3 y.vals.length q3)∧w'.cell? ⟨bb,ob+k*2+1,none⟩=some (.slice p4 y.lin.length q4))
     (first |exact⟨hxr.drew,c1,c2,d1,d2⟩ | assumption | exact keepG4 (by assumption) hx2)
     (first |(go_at_call 66;refine(ref_sameRow _ _ _ _ x y _ (by exact S1.out.ext (And.left ‹Gro wr _∧_›).ext.full) (by exact T1.out.ext (And.left ‹Gro wr _∧_›).ext.full) (by exact S2.out.ext (And.left ‹Gro wr _∧_›).ext.full) (by exact T2.out.ext (And.left ‹Gro wr _∧_›).ext.full)).mono ?_;rintro e w2 ⟨rfl,hx2⟩))
    all_goals (obtain⟨hfin,_⟩:= ‹Gro wr _∧_›)
    all_goals (replace hx:=hx.trans hfin)
    all_goals clear c1 c2 d1 d2
    all_goals generalize hq:eqB x y=q
    all_goals (have HQ:=Lib.hid hq)
    all_goals clear hq
    all_goals cases q
    all_goals first
     |(go_wp2_with fail
       go_roundg (l.length - (k+1))
       case measure=>omega
       case rel=>exact⟨k+1,by omega,rfl,by go_num,by rw [HC.out,HD.out,HQ.out,Bool.true_and],hx⟩)
     |(go_wp2_with fail
       go_ret
       exact⟨ret_bool (by rw [HC.out,HD.out,HQ.out,Bool.false_and]),hx⟩)
   ·have:k=l.length:=by omega
    subst this
    have hen:=eqB_end l l' HLn.out
    have HE:=Lib.hid hen
    clear hen
    go_wp2_with fail
    go_ret
    exact⟨ret_bool (by rw [HC.out,HE.out]),hx⟩
 ·have hlb:((l.length:Int) != (l'.length:Int))=true:=by simp;omega
  have hen:=eqB_len l l' hlen
  have HE:=Lib.hid hen
  clear hen
  go_wp2_with fail
  go_ret
  exact⟨ret_bool HE.out.symm,Gro.refl w⟩
def few (n:Nat) (l:List Row):Prop:=l.length≤n∧ ∀r∈l,r.vals.length≤6∧r.lin.length≤6
end Go.Proofs.YtombmdaohcjokaaGreatDoor
namespace Go.Proofs.YtombmdaohcjokaaGreatDoor
open Go.RowKit
theorem RepAll.flatten_take {α:Type} {R:Rep α} {w:View} {css:List (List Value)} {xs:List α} (h:RepAll R w css xs) (k:Nat):(css.take k).flatten=css.flatten.take (k*R.size):=by
 induction css generalizing xs k with
 |nil=>simp
 |cons c css ih=>cases xs with
  |nil=>exact h.elim
  |cons x xs=>cases k with
   |zero=>simp
   |succ k =>
    have hc:=R.len h.1
    rw [List.take_succ_cons,List.flatten_cons,List.flatten_cons,ih h.2,List.take_append,hc,Nat.succ_mul,List.take_of_length_le (l:=c) (by rw [hc];omega),Nat.add_sub_cancel]
theorem SliceOf.takeV {α:Type} {R:Rep α} {w:View} {b o cap n:Nat} {xs:List α} (h:SliceOf R w (.slice (some ⟨b,o,none⟩) n cap) xs) (k:Nat) (hk:k≤xs.length) :
  SliceOf R w (.slice (some ⟨b,o,none⟩) k cap) (xs.take k):=by
 obtain⟨css,h1,h2⟩:=h
 refine⟨css.take k,h1.take k,?_⟩
 have hl:(xs.take k).length=k:=by simp;omega
 rw [hl,h1.flatten_take]
 rcases h2 with ⟨he,_⟩ | ⟨ad,c,he,g1,g2,g3⟩
 ·cases he
 ·injection he with e1 e2 e3
  injection e1 with e1
  subst e1 e2 e3
  refine .inr ⟨_,cap,rfl,by omega,g2,?_⟩
  rcases g3 with g3 | ⟨b',o',ha,g3⟩
  ·exact .inl (by rw [g3];simp)
  ·refine .inr ⟨b',o',ha,fun j u hj=> ?_⟩
   rw [List.getElem?_take]at hj
   split at hj
   ·exact g3 j u hj
   ·cases hj
def mergeBy {α:Type} (c:α→α→Int) (l l':List α):List α:=List.merge l l' fun a b=>decide (c a b≤0)
theorem old_avoid {α:Type} {R:Rep α} {W w':World} {S:Nat→Prop} {e:TypeId} {v:Value} {xs:List α} (hb:Below W.heap.size W w') (hown:OwnOf R w' S W.heap.size e v xs) :
  Sub (on W (fun k=>k<W.heap.size)) (on w' (avoid (fun k=>k<W.heap.size) v)) :=
 (below_sub hb fun _ h=>h).trans (on_mono _ fun k _ hk=>⟨fun he=>by have:=(hown.lt k he.symm).1;omega,hk⟩)
theorem sortBy_short {α:Type} (c:α→α→Int) (l:List α) (h:l.length<2):sortBy c l=l:=by
 match l,h with
 |[],_=>simp [sortBy]
 |[a],_=>simp [sortBy]
end Go.Proofs.YtombmdaohcjokaaGreatDoor
namespace Go.Proofs
open Go.Shelf
def Tryz.growInt_ren:Go.Shelf.Ren:=⟨fun | 4=>116 | n=>n,fun | 22=>29 | 25=>3 | 3=>3 | 4=>4 | 9=>9 | 20=>20 | 0=>0 | n=>n,fun | n=>n⟩
theorem Tryz.growInt:Go.Proofs.Lays8.n4 Tryz.prog Tryz.growInt_ren:= {
 mixed:=by kernel_rfl
 f4:=⟨Tryz.f116.name,by decide,Tryz.func116.trans (congrArg some (by kernel_rfl))⟩
 t0:=Tryz.underlying0
 a0:=Tryz.isAgg0
 z0:=Tryz.sizeOf0
 v0:=Tryz.zeroValue0
 t3:=Tryz.underlying3
 a3:=Tryz.isAgg3
 z3:=Tryz.sizeOf3
 v3:=Tryz.zeroValue3
 t4:=Tryz.underlying4
 a4:=Tryz.isAgg4
 z4:=Tryz.sizeOf4
 v4:=Tryz.zeroValue4
 t9:=Tryz.underlying9
 a9:=Tryz.isAgg9
 z9:=Tryz.sizeOf9
 v9:=Tryz.zeroValue9
 t20:=Tryz.underlying20
 a20:=Tryz.isAgg20
 z20:=Tryz.sizeOf20
 v20:=Tryz.zeroValue20
 t22:=Tryz.underlying29
 a22:=Tryz.isAgg29
 z22:=Tryz.sizeOf29
 v22:=Tryz.zeroValue29 }
end Go.Proofs
namespace Go.Proofs.YtombmdaohcjokaaGreatDoor
open Go.RowKit
def mergeL (l l':List Int):List Int:=Lib.compact ((l++l').mergeSort fun x y=>decide (x≤y))
theorem compactUpTo_law (d:Array Int) (hs : ∀i j,i≤j→j<d.size→d[i]! ≤d[j]!) (m:Nat) (hm:m≤d.size) :
  (Lib.compactUpTo d m).Pairwise (· < ·)∧ ∀x,x∈Lib.compactUpTo d m↔ ∃j,j<m∧d[j]! = x:=by
 induction m with
 |zero=>simp [Lib.compactUpTo]
 |succ m ih =>
  obtain⟨h1,h2⟩:=ih (by omega)
  rw [Lib.compactUpTo_succ]
  by_cases hk:Lib.keeps d m=true
  ·rw [if_pos hk]
   constructor
   ·rw [List.pairwise_append]
    refine⟨h1,by simp,fun a ha b hb=> ?_⟩
    rw [List.mem_singleton]at hb
    subst hb
    obtain⟨j,hj,rfl⟩:=(h2 a).1 ha
    have h3:=hs j (m - 1) (by omega) (by omega)
    have h4:=hs (m - 1) m (by omega) (by omega)
    have h5:d[m]! ≠d[m - 1]! := fun e=>by
     have:=Lib.keeps_neg (by omega) e
     rw [this]at hk
     cases hk
    omega
   ·intro x
    rw [List.mem_append,h2,List.mem_singleton]
    constructor
    ·rintro(⟨j,hj,e⟩ | e)
     ·exact⟨j,by omega,e⟩
     ·exact⟨m,by omega,e.symm⟩
    ·rintro⟨j,hj,e⟩
     by_cases hjm:j=m
     ·subst hjm;exact .inr e.symm
     ·exact .inl ⟨j,by omega,e⟩
  ·have hk':Lib.keeps d m=false:=by simpa using hk
   rw [if_neg hk,List.append_nil]
   refine⟨h1,fun x=> ?_⟩
   rw [h2]
   have hm0:0<m:=by
    rcases Nat.eq_zero_or_pos m with h | h
    ·subst h;simp [Lib.keeps]at hk'
    ·exact h
   have he:d[m]! = d[m - 1]! := Classical.byContradiction fun e=>by
    have:=Lib.keeps_pos (d:=d) (m:=m) e
    rw [this]at hk'
    cases hk'
   constructor
   ·rintro⟨j,hj,e⟩
    exact⟨j,by omega,e⟩
   ·rintro⟨j,hj,e⟩
    by_cases hjm:j=m
    ·subst hjm;exact⟨j - 1,by omega,by rw [←he];exact e⟩
    ·exact⟨j,by omega,e⟩
theorem compact_law (l:List Int) (hs:l.Pairwise (· ≤ ·)):(Lib.compact l).Pairwise (· < ·)∧ ∀x,x∈Lib.compact l↔x∈l:=by
 have h:=compactUpTo_law l.toArray (fun i j hij hj=>by
  have hj':j<l.length:=by simpa using hj
  rw [getElem!_pos l.toArray i (by simp;omega),getElem!_pos l.toArray j (by simpa using hj)]
  simp only [List.getElem_toArray]
  by_cases e:i=j
  ·subst e;exact Int.le_refl _
  ·exact List.pairwise_iff_getElem.1 hs i j (by omega) (by omega) (by omega)) l.length (by simp)
 refine⟨h.1,fun x=>(h.2 x).trans ?_⟩
 constructor
 ·rintro⟨j,hj,e⟩
  rw [getElem!_pos l.toArray j (by simpa using hj)]at e
  subst e
  simp
 ·intro hx
  obtain⟨j,hj,e⟩:=List.getElem_of_mem hx
  exact⟨j,hj,by rw [getElem!_pos l.toArray j (by simpa using hj)];simpa using e⟩
theorem mergeL_law (l l':List Int):(mergeL l l').Pairwise (· < ·)∧ ∀x,x∈mergeL l l'↔x∈l∨x∈l':=by
 have hs:((l++l').mergeSort fun x y=>decide (x≤y)).Pairwise (· ≤ ·):=by
  have:=List.pairwise_mergeSort (le:=fun x y:Int=>decide (x≤y)) (fun a b c h1 h2=>by simp only [decide_eq_true_eq]at *;omega) (fun a b=>by simp only [Bool.or_eq_true,decide_eq_true_eq];omega) (l++l')
  exact this.imp (by simp)
 obtain⟨h1,h2⟩:=compact_law _ hs
 refine⟨h1,fun x=>(h2 x).trans ?_⟩
 rw [(List.mergeSort_perm _ _).mem_iff,List.mem_append]
theorem asc_unique {l l':List Int} (h:l.Pairwise (· < ·)) (h':l'.Pairwise (· < ·)) (he : ∀x,x∈l↔x∈l'):l=l':=by
 refine List.Perm.eq_of_pairwise (le:=(· < ·)) (fun a b _ _ h1 h2=>by omega) h h' ?_
 exact(List.perm_ext_iff_of_nodup (h.imp fun h=>by omega) (h'.imp fun h=>by omega)).2 he
def inR (l:List Int):Prop:= ∀x∈l,-9223372036854775808≤x∧x≤9223372036854775807
theorem repAll_ints {h:View} {css:List (List Value)} {xs:List Int} (k:RepAll Rep.int h css xs):css.flatten=xs.map (Value.int .i64)∧inR xs:=by
 induction css generalizing xs with
 |nil=>cases xs with
  |nil=>exact⟨rfl,fun x hx=>by cases hx⟩
  |cons x xs=>exact k.elim
 |cons c css ih=>cases xs with
  |nil=>exact k.elim
  |cons x xs =>
   obtain⟨⟨rfl,h1⟩,h2⟩:=k
   obtain⟨h3,h4⟩:=ih h2
   refine⟨by simp [h3],fun y hy=> ?_⟩
   rcases List.mem_cons.1 hy with rfl | hy
   ·exact h1
   ·exact h4 y hy
theorem ints_repAll (h:View) (xs:List Int) (k:inR xs):RepAll Rep.int h (xs.map fun x=> [.int .i64 x]) xs:=by
 induction xs with
 |nil=>trivial
 |cons x xs ih=>exact⟨⟨rfl,k x (by simp)⟩,ih fun y hy=>k y (by simp [hy])⟩
theorem flat_ints (xs:List Int):(xs.map fun x=> [Value.int .i64 x]).flatten=xs.map (Value.int .i64):=by
 induction xs with
 |nil=>rfl
 |cons x xs ih=>simp [ih]
theorem OwnOf.ints {w:World} {S:Nat→Prop} {base:Nat} {e:TypeId} {v:Value} {xs:List Int} (h:OwnOf Rep.int w S base e v xs):w.ownsRow base e 1 v xs.length (xs.map (Value.int .i64))∧inR xs:=by
 obtain⟨css,h1,h2⟩:=h
 obtain⟨h3,h4⟩:=repAll_ints h1
 exact⟨by rw [←h3];exact h2,h4⟩
theorem OwnOf.ofInts {w:World} (S:Nat→Prop) {base:Nat} {e:TypeId} {v:Value} {xs:List Int} (h:w.ownsRow base e 1 v xs.length (xs.map (Value.int .i64))) (hr:inR xs):OwnOf Rep.int w S base e v xs :=
 ⟨_,ints_repAll _ _ hr,by rw [flat_ints];exact h⟩
theorem grow_ints (S:Nat→Prop) (n:Nat) (w:World) (hn:n≤1099511627776):Calls Tryz.prog 116 #[.slice none 0 0,.int .i64 n] w fun e w'=> ∃v',e = .returned v'∧OwnOf Rep.int w' S w.heap.size 3 v' []∧Ext w w':=by
 obtain⟨i0,hi,hz0,hz1,hz2⟩:=info_parts info_ints
 by_cases h0:n=0
 ·subst h0
  refine(Any8.slices_Grow_room Tryz.growInt none 0 0 0 w (Nat.le_refl _) (by omega) (by omega) (by omega)).mono ?_
  rintro e w' ⟨rfl,rfl⟩
  exact⟨_,rfl,OwnOf.nil _ _ _ _ _,Ext.refl _⟩
 ·refine(Any8.slices_Grow_grow Tryz.growInt i0 _ hi hz0 (by rw [hz1];decide) none 0 0 n [] w (Nat.le_refl _) (by omega) (by rw [hz2];omega) (by omega) (by simp) (fun _=>rfl) (fun a h=>by cases h)).mono ?_
  rintro e w' ⟨rfl,rfl⟩
  have hg:=grownCap_ge w (0+n) 0 (Tryz.growInt_ren.t 25)
  have hg2:=grownCap_le_maxLen w (0+n) 0 (Tryz.growInt_ren.t 25) (by unfold maxLen;omega)
  refine⟨_,rfl,⟨[],trivial,?_⟩,(Ext.refl w).drew.alloc _⟩
  refine World.ownsRow_made w.drew _ _ (Nat.le_refl _) hg2 ?_
  generalize grownCap w (0+n) 0 (Tryz.growInt_ren.t 25)=cap at hg
  rw [show Rep.int.size=1 from rfl]
  simp [size_zeroCells,Value.cells]
  omega
theorem slice_at {α:Type} {R:Rep α} {w:View} {b o n cap:Nat} {xs:List (List α)} (h:SliceOf (Rep.slice R) w (.slice (some ⟨b,o,none⟩) n cap) xs) (i:Nat) (hi:i<xs.length) :
  ∃v,w ⟨b,o+i,none⟩=some v∧SliceOf R w v xs[i]:=by
 obtain⟨c,⟨v,rfl,h1⟩,h2⟩:=h.at i hi
 have:=h2 0 _ rfl
 rw [show (Rep.slice R).size=1 from rfl,Nat.mul_one,Nat.add_zero]at this
 exact⟨v,this,h1⟩
theorem flatten_take {α:Type} (ls:List (List α)) (k:Nat) (h:k<ls.length):(ls.take (k+1)).flatten=(ls.take k).flatten++ls[k]:=by
 rw [List.take_succ_eq_append_getElem h,List.flatten_append];simp only [List.flatten_cons,List.flatten_nil,List.append_nil]
theorem flatten_take_le {α:Type} (ls:List (List α)) (k:Nat):(ls.take k).flatten.length≤ls.flatten.length:=by
 have:ls.flatten=(ls.take k).flatten++(ls.drop k).flatten:=by rw [←List.flatten_append,List.take_append_drop]
 rw [this,List.length_append]
 omega
set_option maxHeartbeats 2000000 in
theorem concat_ints (v:Value) (ls:List (List Int)) (w:World) (hv:SliceOf (Rep.slice Rep.int) w.cell? v ls) (hbig:ls.flatten.length≤1099511627776) :
  Calls Tryz.prog 69 #[v] w fun e w'=> ∃v',e = .returned v'∧OwnOf Rep.int w' (fun _=>True) w.heap.size 3 v' ls.flatten∧Ext w w':=by
 obtain⟨i0,hi,hz0,hz1,hz2⟩:=info_parts info_ints
 obtain⟨pa,ca,rfl,ha1,ha2,ha3⟩:=hv.form
 have HV:=Lib.hid hv
 unfold maxLen at ha2
 go_enter Tryz.func69,Tryz.ntmps69
 go_wp2_with fail
 go_loopg [3,11] ls.length (fun gk n i wr=> ∃k m:Nat,k≤ls.length∧gk=ls.length - k∧i = .int .i64 k∧n = .int .i64 m∧m=(ls.take k).flatten.length∧w=wr)
 case atStart=>exact⟨0,0,by omega,rfl,rfl,rfl,by simp,rfl⟩
 case round =>
  obtain⟨k,m,hk,rfl,rfl,rfl,hm,rfl⟩:=hrel
  have hle:=flatten_take_le ls k
  by_cases hlt:k<ls.length
  ·obtain⟨ba,oa,rfl⟩:=ha3 (by decide) (by omega)
   obtain⟨u,c1,s1⟩:=slice_at hv k hlt
   have ht:=flatten_take ls k hlt
   have hle2:=flatten_take_le ls (k+1)
   obtain⟨p1,q1,rfl,hq1,hq2,_⟩:=s1.form
   have hml:(ls.take (k+1)).flatten.length=m+ls[k].length:=by rw [ht,List.length_append,hm]
   rw [hml]at hle2
   rw [←hm]at hle
   generalize ls[k].length=n1 at hml hle2 hq1 c1 s1
   have HL:=Lib.hid hml
   have HM:=Lib.hid hm
   unfold maxLen at hq2
   have hd:decide ((k:Int)<(ls.length:Int))=true:=by simp;omega
   have hd1:(k:Int)<(ls.length:Int):=by omega
   have hd2:decide ((m:Int)+(n1:Int)<0)=false:=by simp;omega
   clear s1 ht hml hm hv ha3
   go_wp2_with fail
   go_roundg (ls.length - (k+1))
   case measure=>omega
   case rel=>exact⟨k+1,m+n1,by omega,rfl,by go_num,by go_num,HL.out.symm,rfl⟩
  ·have:k=ls.length:=by omega
   subst this
   rw [List.take_length]at hm
   have hmb:m≤1099511627776:=by rw [hm];exact hbig
   clear hv hle hm
   have HB:=Lib.hid hbig
   clear hbig
   go_wp2_with fail
   refine(grow_ints (fun _=>True) m _ hmb).mono ?_
   rintro e w1 ⟨v1,rfl,hown,hx⟩
   have HO:=Lib.hid hown
   clear hown
   go_wp2_with fail
   go_loopg [6,27] ls.length (fun gk v i wr=> ∃k:Nat,k≤ls.length∧gk=ls.length - k∧i = .int .i64 k∧OwnOf Rep.int wr (fun _=>True) w.heap.size 3 v (ls.take k).flatten∧Ext w wr)
   case atStart=>exact⟨0,by omega,rfl,rfl,by simpa using HO.out,hx⟩
   case round =>
    clear HO hx
    obtain⟨k,hk,rfl,rfl,hown,hx⟩:=hrel
    by_cases hlt:k<ls.length
    ·obtain⟨ba,oa,rfl⟩:=ha3 (by decide) (by omega)
     obtain⟨u,c1,s1⟩:=slice_at HV.out k hlt
     have ht:=flatten_take ls k hlt
     have hle2:=flatten_take_le ls (k+1)
     have HO:=Lib.hid hown
     have hbg:=Nat.le_trans hle2 HB.out
     rw [ht,List.length_append]at hbg
     have hsub : ∀v',OwnOf Rep.int wr (fun _=>True) w.heap.size 3 v' (ls.take k).flatten→Sub w.cell? (on wr (avoid (fun _=>True) v')):=fun v' ho p u e=>by
      have hlt2:=World.block_lt_of_cell? w p e
      refine on_some.2 ⟨⟨fun he=> ?_,trivial⟩,hx.at e⟩
      have:=(ho.lt _ he.symm).1
      omega
     replace s1:=s1.ext (hsub _ hown)
     replace c1:=hx.at c1
     generalize ls[k]=x at s1 ht hbg
     have HT:=Lib.hid ht
     have HG:=Lib.hid hbg
     have S1:=Lib.hid s1
     obtain⟨p1,q1,rfl,hq1,hq2,_⟩:=s1.form
     have hd:decide ((k:Int)<(ls.length:Int))=true:=by simp;omega
     have hd1:(k:Int)<(ls.length:Int):=by omega
     clear s1 ht hbg hown ha3 hle2 hsub
     go_wp2_with (at_builtin;refine wpList_append_all Rep.int (fun _=>True) rfl _ _ 29 rfl w.heap.size 3 i0 _ 8 Tryz.underlying29 hi hz0 hz1 hz2 rfl (by decide) _ (ls.take k).flatten rfl HO.out _ x rfl S1.out ?c1 ?c2 ?c3 ?_)
     case c1=>have:=HG.out;unfold maxLen;omega
     case c2=>have:=HG.out;omega
     case c3=>exact hx.size
     intro v' w3 hown3 hgr _
     go_wp2_with fail
     go_roundg (ls.length - (k+1))
     case measure=>omega
     case rel=>exact⟨k+1,by omega,rfl,by go_num,by rw [HT.out];exact hown3,Below.grown hx hgr hx.size (fun j hj=>(HO.out.lt j hj).1)⟩
    ·have:k=ls.length:=by omega
     subst this
     rw [List.take_length]at hown
     have HO:=Lib.hid hown
     clear hown ha3
     go_wp2_with fail
     go_ret
     exact⟨_,rfl,HO.out,hx⟩
theorem sort_ints (S:Nat→Prop) (v:Value) (xs:List Int) (w:World) (base:Nat) (e:TypeId) (h:OwnOf Rep.int w S base e v xs) (hn:xs.length<4611686018427387904) :
  Calls Tryz.prog 70 #[v] w fun en w'=>en = .returned (.tuple #[])∧OwnOf Rep.int w' S base e v (xs.mergeSort fun x y=>decide (x≤y))∧w.grownBy w' v.ownBlock:=by
 obtain⟨h1,hr⟩:=h.ints
 by_cases hv:v = .slice none 0 0
 ·subst hv
  have hx:xs.length=0:=by
   rcases h1.2 with ⟨_,h0⟩ | ⟨_,_,_,h0,_⟩
   ·exact h0
   ·cases h0
  have hx:=List.eq_nil_of_length_eq_zero hx
  subst hx
  refine(Tryz.slices_Sort_int_none none 0 w).mono ?_
  rintro en w' ⟨rfl,rfl⟩
  exact⟨rfl,by simpa using h,⟨rfl,rfl,rfl,Nat.le_refl _,fun _ _ _=>rfl⟩⟩
 ·obtain⟨g,cap,rfl,g1,g2,g3,g4,_,hH⟩:=Lib.holds_of_ownsRow h1 hv
  refine(Tryz.slices_Sort_int g 0 cap xs w hH g2 hn).mono ?_
  rintro en w' ⟨rfl,n,os,rfl⟩
  have hp:=List.mergeSort_perm xs fun x y=>decide (x≤y)
  rcases h1.2 with ⟨h0,_⟩ | ⟨g',cap',cur,h0,hb,hg,hm1,hm2,hs,ht⟩
  ·cases h0
  ·injection h0 with e1 e2 e3
   injection e1 with e1
   injection e1 with e1
   subst e1 e3
   have:=ownsRow_sortedI (w:=w) (base:=base) (g:=g) (cap:=cap) (n:=n) (e:=e) (os:=os) (cur:=cur) (ss:=xs) (ts:=xs.mergeSort fun x y=>decide (x≤y)) hp.length_eq hb hg hm1 hm2 hs
   refine⟨rfl,?_,grownBy_sortedI _⟩
   rw [←hp.length_eq]at this ⊢
   exact OwnOf.ofInts S this fun x hx=>hr x (hp.mem_iff.1 hx)
theorem compact_ints (S:Nat→Prop) (v:Value) (xs:List Int) (w:World) (base:Nat) (e:TypeId) (h:OwnOf Rep.int w S base e v xs) :
  Calls Tryz.prog 71 #[v] w fun en w'=> ∃v',en = .returned v'∧OwnOf Rep.int w' S base e v' (Lib.compact xs)∧w.grownBy w' v.ownBlock:=by
 obtain⟨h1,hr⟩:=h.ints
 by_cases hv:v = .slice none 0 0
 ·subst hv
  have hx:xs.length=0:=by
   rcases h1.2 with ⟨_,h0⟩ | ⟨_,_,_,h0,_⟩
   ·exact h0
   ·cases h0
  have hx:=List.eq_nil_of_length_eq_zero hx
  subst hx
  refine(Tryz.slices_Compact_int_empty none 0 w).mono ?_
  rintro en w' ⟨rfl,rfl⟩
  exact⟨_,rfl,by simpa [Lib.compact,Lib.compactUpTo] using h,⟨rfl,rfl,rfl,Nat.le_refl _,fun _ _ _=>rfl⟩⟩
 ·obtain⟨g,cap,rfl,g1,g2,g3,g4,_,hH⟩:=Lib.holds_of_ownsRow h1 hv
  unfold maxLen at g4
  refine(Tryz.slices_Compact_int g 0 cap xs w hH (by omega) g3).mono ?_
  rintro en w' ⟨rfl,q,rfl⟩
  have hle:=Lib.compact_length_le xs
  have:=Lib.ownsRow_putRow (q:=q) (k:=(Lib.compact xs).length) (ys:=Lib.compact xs++List.replicate (xs.length - (Lib.compact xs).length) 0) h1 (by simp;omega) hle
  rw [List.take_left']at this
  ·refine⟨_,rfl,OwnOf.ofInts S this fun x hx=>hr x ?_,?_⟩
   ·have:x∈((Lib.compact xs)):=hx
    unfold Lib.compact Lib.compactUpTo at this
    rw [List.mem_map]at this
    obtain⟨j,hj,rfl⟩:=this
    have hj:=(List.mem_filter.1 hj).1
    rw [List.mem_range]at hj
    rw [getElem!_pos xs.toArray j (by simpa using hj)]
    simp
   ·refine⟨rfl,rfl,rfl,by simp [Sort.ahead],fun k hk hne=> ?_⟩
    have:g≠k:=fun e=>hne (by rw [e];rfl)
    simp [Sort.putRow,Sort.mapBlock,Sort.ahead,Array.getElem?_modify,this]
  ·rfl
set_option maxHeartbeats 1000000 in
theorem merge_lineageB (va vb:Value) (l l':List Int) (w:World) (ha:SliceOf Rep.int w.cell? va l) (hb:SliceOf Rep.int w.cell? vb l') (hf:l.length≤137438953472) (hf':l'.length≤137438953472) :
  Calls Tryz.prog 29 #[va,vb] w fun e w'=> ∃v',e = .returned v'∧SliceOf Rep.int (on w' (since w)) v' (mergeL l l')∧Ext w w':=by
 have HA:=Lib.hid ha
 have HB:=Lib.hid hb
 obtain⟨pa,ca,rfl,_⟩:=ha.form
 obtain⟨pb,cb,rfl,_⟩:=hb.form
 clear ha hb
 go_enter Tryz.func29,Tryz.ntmps29
 go_wp2_with fail
 have hx:=(Ext.refl w).alloc (.cells #[.slice pa l.length ca,.slice pb l'.length cb] 29)
 refine(concat_ints _ [l,l'] _ ⟨[[.slice pa l.length ca],[.slice pb l'.length cb]],⟨⟨_,rfl,HA.out.ext hx.full⟩,⟨_,rfl,HB.out.ext hx.full⟩,trivial⟩,.inr ⟨_,2,rfl,by simp,by simp [maxLen],.inr ⟨_,0,rfl,fun j u hj=> ?_⟩⟩⟩ (by simp;omega)).mono ?_
 ·rw [World.cell?_alloc_at _ _ _ _ rfl]
  simpa using hj
 rintro e w1 ⟨v1,rfl,hown1,hx1⟩
 replace hx:=hx.trans hx1
 simp only [List.flatten_cons,List.flatten_nil,List.append_nil]at hown1
 replace hown1:=hown1.weak (base':=w.heap.size) (fun _ _ h=>h) (by simp)
 have hlen:(l++l').length<4611686018427387904:=by simp;omega
 have H1:=Lib.hid hown1
 clear hx1 hown1
 go_wp2_with fail
 refine(sort_ints _ _ _ _ _ _ H1.out hlen).mono ?_
 rintro e w2 ⟨rfl,hown2,hg2⟩
 have H2:=Lib.hid hown2
 have hx2:=Below.grown hx hg2 hx.size (fun k hk=>(H1.out.lt k hk).1)
 clear hown2 hg2 hx
 go_wp2_with fail
 refine(compact_ints _ _ _ _ _ _ H2.out).mono ?_
 rintro e w3 ⟨v3,rfl,hown3,hg3⟩
 have H3:=Lib.hid hown3
 have hx3:=Below.grown hx2 hg3 hx2.size (fun k hk=>(H2.out.lt k hk).1)
 clear hown3 hg3 hx2
 go_wp2_with fail
 go_ret
 exact⟨_,rfl,H3.out.fresh flat_int,hx3⟩
theorem merge_lineage (va vb:Value) (l l':List Int) (w:World) (ha:SliceOf Rep.int w.cell? va l) (hb:SliceOf Rep.int w.cell? vb l') (hf:l.length≤1048576) (hf':l'.length≤1048576) :
 Calls Tryz.prog 29 #[va,vb] w fun e w'=> ∃v',e = .returned v'∧SliceOf Rep.int (on w' (since w)) v' (mergeL l l')∧Ext w w':=merge_lineageB va vb l l' w ha hb (by omega) (by omega)
end Go.Proofs.YtombmdaohcjokaaGreatDoor
namespace Go.Proofs.YtombmdaohcjokaaGreatDoor
def AscOf (l xs:List Int):Prop:=l.Pairwise (· < ·)∧(∀x,x∈l↔x∈xs)∧l.length≤xs.length
end Go.Proofs.YtombmdaohcjokaaGreatDoor
namespace Go.Proofs.YtombmdaohcjokaaGreatDoor
def validT (t:Tup):Bool:=validB t.from_ t.to_
def bnd (l:List Tup):List Int:=l.flatMap fun t=>if validT t=true then [t.from_,t.to_]else []
def chg1 (t:Tup) (x:Int):Int:=if validT t=true then(if t.from_=x then 1 else 0) - (if t.to_=x then 1 else 0)else 0
def chg:List Tup→Int→Int
 |[],_=>0
 |t::l,x=>chg1 t x+chg l x
def holdsAt (x:Int) (t:Tup):Bool:=validT t&&decide (t.from_≤x)&&decide (x<t.to_)
def cntAt (l:List Tup) (x:Int):Nat:=(l.filter (holdsAt x)).length
theorem bnd_append (a b:List Tup):bnd (a++b)=bnd a++bnd b:=by simp [bnd]
theorem bnd_len (l:List Tup):(bnd l).length≤2*l.length:=by
 induction l with
 |nil=>simp [bnd]
 |cons t l ih =>
  have:bnd (t::l)=(if validT t=true then [t.from_,t.to_]else [])++bnd l:=rfl
  rw [this,List.length_append,List.length_cons]
  split <;> simp <;> omega
def sumL:List Int→Int
 |[]=>0
 |x::l=>x+sumL l
structure StepI where
 from_:Int
 to_:Int
 n:Int
def addStep (out:List StepI) (s:StepI):List StepI :=
 match out.getLast? with
 |some p=>if p.n=s.n then out.dropLast ++ [⟨p.from_,s.to_,p.n⟩]else out ++ [s]
 |none=> [s]
def stepsOf (P:List Int) (f:Nat→Int):Nat→List StepI
 |0=> []
 |k+1=>addStep (stepsOf P f k) ⟨P[k]!,P[k+1]!,f k⟩
theorem addStep_nil (s:StepI):addStep [] s = [s]:=rfl
theorem asc_len {l xs:List Int} (h:l.Pairwise (· < ·)) (hs : ∀x∈l,x∈xs):l.length≤xs.length:=by
 induction l generalizing xs with
 |nil=>simp
 |cons x l ih =>
  have h':=List.pairwise_cons.1 h
  have:=ih (xs:=xs.erase x) h'.2 fun y hy=>by
   have h1:=h'.1 y hy
   exact(List.mem_erase_of_ne (by omega)).2 (hs y (by simp [hy]))
  rw [List.length_erase_of_mem (hs x (by simp))]at this
  have hx:0<xs.length:=List.length_pos_of_mem (hs x (by simp))
  simp only [List.length_cons]
  omega
def pts (l:List Tup):List Int:=mergeL (bnd l) []
theorem pts_law (l:List Tup):AscOf (pts l) (bnd l):=by
 obtain⟨h1,h2⟩:=mergeL_law (bnd l) []
 have hm : ∀x,x∈pts l↔x∈bnd l:=fun x=>by unfold pts;rw [h2];simp
 exact⟨h1,hm,asc_len h1 fun x hx=>(hm x).1 hx⟩
def depthOf (l:List Tup):List StepI:=stepsOf (pts l) (fun i=>cntAt l (pts l)[i]!) ((pts l).length - 1)
end Go.Proofs.YtombmdaohcjokaaGreatDoor
namespace Go.Proofs.YtombmdaohcjokaaGreatDoor
open Go.Shelf Go.Sort
structure Per where
 from_:Int
 to_:Int
def NormPer (s:List Per):Prop:=s.Pairwise (fun a b=>a.to_<b.from_)∧ ∀p∈s,p.from_<p.to_
def inPer (s:List Per) (x:Int):Prop:= ∃p∈s,p.from_≤x∧x<p.to_
def addPer (out:List Per) (p:Per):List Per :=
 match out.getLast? with
 |some q=>if p.from_≤q.to_ then out.dropLast ++ [⟨q.from_,max q.to_ p.to_⟩]else out ++ [p]
 |none=> [p]
def mergePer (l:List Per):List Per:=l.foldl addPer []
def absorb:List Per→Per→Per×List Per
 |[],p=>(p,[])
 |q::s,p=>if q.from_≤p.to_ then absorb s ⟨min p.from_ q.from_,max p.to_ q.to_⟩else(p,q::s)
def insPer:List Per→Per→List Per
 |[],p=> [p]
 |q::s,p=>if q.to_<p.from_ then q::insPer s p else(absorb (q::s) p).1::(absorb (q::s) p).2
def refNorm (l:List Per):List Per:=(l.filter fun p=>validB p.from_ p.to_).foldl insPer []
end Go.Proofs.YtombmdaohcjokaaGreatDoor
namespace Go.Proofs.YtombmdaohcjokaaGreatDoor
def sumN (g:Nat→Int):Nat→Int
 |0=>0
 |k+1=>sumN g k+g k
def dP (P:List Int) (i:Nat):Int:=P[i+1]! - P[i]!
theorem asc_at {P:List Int} (hP:P.Pairwise (· < ·)) {i j:Nat} (hij:i<j) (hj:j<P.length):P[i]! < P[j]! := by
 rw [getElem!_pos P i (by omega),getElem!_pos P j hj]
 exact List.pairwise_iff_getElem.1 hP i j (by omega) hj hij
theorem gap {P:List Int} (hP:P.Pairwise (· < ·)) {y:Int} (hy:y∈P) {k:Nat} (hk:k+1<P.length) (h:P[k]! < y):P[k+1]! ≤y:=by
 obtain⟨j,hj,rfl⟩:=List.getElem_of_mem hy
 have h1:P[j]=P[j]! := (getElem!_pos P j hj).symm
 rw [h1]at h ⊢
 by_cases e:j≤k
 ·rcases Nat.lt_or_eq_of_le e with e | e
  ·have:=asc_at hP e (by omega);omega
  ·subst e;omega
 ·by_cases e2:j=k+1
  ·subst e2;omega
  ·have:=asc_at hP (show k+1<j by omega) hj;omega
theorem first_le {P:List Int} (hP:P.Pairwise (· < ·)) {x:Int} (hx:x∈P):P[0]! ≤x:=by
 obtain⟨j,hj,rfl⟩:=List.getElem_of_mem hx
 rw [show P[j]=P[j]! from (getElem!_pos P j hj).symm]
 rcases Nat.eq_zero_or_pos j with e | e
 ·subst e;omega
 ·have:=asc_at hP e hj;omega
theorem le_last {P:List Int} (hP:P.Pairwise (· < ·)) {x:Int} (hx:x∈P):x≤P[P.length - 1]! := by
 obtain⟨j,hj,rfl⟩:=List.getElem_of_mem hx
 rw [show P[j]=P[j]! from (getElem!_pos P j hj).symm]
 by_cases e:j=P.length - 1
 ·subst e;omega
 ·have:=asc_at hP (show j<P.length - 1 by omega) (by omega);omega
def ind (b:Bool):Int:=if b=true then 1 else 0
def inI (x y z:Int):Bool:=decide (x≤z)&&decide (z<y)
def lens:List Tup→Int
 |[]=>0
 |t::l=>(t.to_ - t.from_)+lens l
def area:List StepI→Int
 |[]=>0
 |s::l=>(s.to_ - s.from_)*s.n+area l
def cov:List StepI→Int
 |[]=>0
 |s::l=>(if 0<s.n then s.to_ - s.from_ else 0)+cov l
def StepRuns (d:List StepI):Prop:=(∀s∈d,s.from_<s.to_)∧ ∀i (h:i+1<d.length),d[i].to_=d[i+1].from_∧d[i].n≠d[i+1].n
def perLen:List Per→Int
 |[]=>0
 |p::s=>(p.to_ - p.from_)+perLen s
def Ends (L:List Int) (s:List Per):Prop:= ∀p∈s,p.from_∈L∧p.to_∈L
def tupPer (t:Tup):Per:=⟨t.from_,t.to_⟩
end Go.Proofs.YtombmdaohcjokaaGreatDoor
namespace Go.Proofs.YtombmdaohcjokaaGreatDoor
def hE (t:Int) (e:Ev):Bool:=validB e.from_ e.to_&&decide (e.from_≤t)&&decide (t<e.to_)
def inP (t:Int) (p:Pair):Bool:=decide (p.from_≤t)&&decide (t<p.to_)
def valAt (t:Int) (l:List StepI):Int:=l.foldl (fun d s=>if s.from_≤t∧t<s.to_ then s.n else d) 0
theorem hold_between {P:List Int} (hP:P.Pairwise (· < ·)) {i:Nat} (hi:i+1<P.length) {t:Int} (h1:P[i]! ≤t) (h2:t<P[i+1]!) (l:List Tup) (hb : ∀x∈bnd l,x∈P) : ∀x∈l,holdsAt P[i]! x=holdsAt t x:=by
 intro x hx
 unfold holdsAt
 cases hv:validB x.from_ x.to_ with
 |false =>
  have:validT x=false:=hv
  simp [this]
 |true =>
  have hm : ∀z,z=x.from_∨z=x.to_→z∈P:=fun z hz=>hb z (by
   unfold bnd
   refine List.mem_flatMap.2 ⟨x,hx,?_⟩
   have:validT x=true:=hv
   rw [this,if_pos rfl]
   rcases hz with rfl | rfl <;> simp)
  have g1:=gap hP (hm x.from_ (.inl rfl)) hi
  have g2:=gap hP (hm x.to_ (.inr rfl)) hi
  have:validT x=true:=hv
  rw [this,Bool.true_and,Bool.true_and,Bool.eq_iff_iff]
  simp only [Bool.and_eq_true,decide_eq_true_eq]
  omega
theorem cnt_between {P:List Int} (hP:P.Pairwise (· < ·)) {i:Nat} (hi:i+1<P.length) {t:Int} (h1:P[i]! ≤t) (h2:t<P[i+1]!) (l:List Tup) (hb : ∀x∈bnd l,x∈P):cntAt l P[i]! = cntAt l t:=by
 unfold cntAt
 rw [List.filter_congr (hold_between hP hi h1 h2 l hb)]
theorem cnt_out {P:List Int} (hP:P.Pairwise (· < ·)) {t:Int} (l:List Tup) (hb : ∀x∈bnd l,x∈P) (h:t<P[0]! ∨P[P.length - 1]! ≤t):cntAt l t=0:=by
 unfold cntAt
 rw [List.length_eq_zero_iff,List.filter_eq_nil_iff]
 intro x hx hc
 unfold holdsAt at hc
 simp only [Bool.and_eq_true,decide_eq_true_eq]at hc
 have hv:validT x=true:=hc.1.1
 have hm : ∀z,z=x.from_∨z=x.to_→z∈P:=fun z hz=>hb z (by
  unfold bnd
  refine List.mem_flatMap.2 ⟨x,hx,?_⟩
  rw [hv,if_pos rfl]
  rcases hz with rfl | rfl <;> simp)
 have g1:=first_le hP (hm x.from_ (.inl rfl))
 have g2:=le_last hP (hm x.to_ (.inr rfl))
 omega
end Go.Proofs.YtombmdaohcjokaaGreatDoor
namespace Go.Proofs.YtombmdaohcjokaaGreatDoor
def perHas (t:Int) (p:Per):Bool:=decide (p.from_≤t)&&decide (t<p.to_)
def levStep (d:Nat) (x:Int) (q:List Int×List Per):List Int×List Per :=
 (q.1.take d++List.replicate (d - q.1.length) x,q.2++(q.1.drop d).reverse.map fun s=>⟨s,x⟩)
def levOf (P:List Int) (f:Nat→Nat):Nat→List Int×List Per
 |0=>([],[])
 |k+1=>levStep (f k) P[k]! (levOf P f k)
theorem levStep_len (d:Nat) (x:Int) (q:List Int×List Per):(levStep d x q).1.length=d:=by
 simp only [levStep,List.length_append,List.length_take,List.length_replicate]
 omega
def levCnt (t:Int) (q:List Int×List Per):Nat:=(q.2.filter (perHas t)).length+(q.1.filter fun s=>decide (s≤t)).length
theorem filter_all {α:Type} {p:α→Bool} {l:List α} (h : ∀x∈l,p x=true):l.filter p=l:=List.filter_eq_self.2 h
theorem levStep_cnt (d:Nat) (x t:Int) (q:List Int×List Per) (h1 : ∀s∈q.1,s<x) (h2 : ∀p∈q.2,p.to_≤x):levCnt t (levStep d x q)=if x≤t then d else levCnt t q:=by
 obtain⟨o,out⟩:=q
 simp only at h1 h2
 unfold levCnt levStep
 simp only
 by_cases h:x≤t
 ·rw [if_pos h]
  have e1:(out++(o.drop d).reverse.map fun s=>(⟨s,x⟩:Per)).filter (perHas t) = []:=by
   rw [List.filter_eq_nil_iff]
   intro p hp
   unfold perHas
   simp only [Bool.and_eq_true,decide_eq_true_eq]
   rcases List.mem_append.1 hp with hp | hp
   ·have:=h2 p hp;omega
   ·obtain⟨s,_,rfl⟩:=List.mem_map.1 hp
    simp only
    omega
  have e2:(o.take d++List.replicate (d - o.length) x).filter (fun s=>decide (s≤t))=o.take d++List.replicate (d - o.length) x:=filter_all fun s hs=>by
   rw [decide_eq_true_eq]
   rcases List.mem_append.1 hs with hs | hs
   ·have:=h1 s (List.mem_of_mem_take hs);omega
   ·rw [List.eq_of_mem_replicate hs];exact h
  rw [e1,e2]
  simp only [List.length_nil,List.length_append,List.length_take,List.length_replicate]
  omega
 ·rw [if_neg h]
  have e0:(List.replicate (d - o.length) x).filter (fun s=>decide (s≤t)) = []:=by
   rw [List.filter_eq_nil_iff]
   intro s hs
   rw [List.eq_of_mem_replicate hs,decide_eq_true_eq]
   exact h
  have e1:(((o.drop d).reverse.map fun s=>(⟨s,x⟩:Per)).filter (perHas t)).length=((o.drop d).filter fun s=>decide (s≤t)).length:=by
   rw [List.filter_map,List.length_map,List.filter_reverse,List.length_reverse]
   congr 2
   funext s
   simp only [Function.comp,perHas]
   rw [show decide (t<x)=true by rw [decide_eq_true_eq];omega,Bool.and_true]
  have e2:(o.filter fun s=>decide (s≤t)).length=((o.take d).filter fun s=>decide (s≤t)).length+((o.drop d).filter fun s=>decide (s≤t)).length:=by
   rw [←List.length_append,←List.filter_append,List.take_append_drop]
  rw [List.filter_append,List.filter_append,List.length_append,List.length_append,e0,e1,e2]
  simp only [List.length_nil]
  omega
def gAt (P:List Int) (f:Nat→Nat):Nat→Int→Nat
 |0,_=>0
 |k+1,t=>if P[k]! ≤t then f k else gAt P f k t
theorem levOf_law {P:List Int} (hP:P.Pairwise (· < ·)) (f:Nat→Nat) (k:Nat) (hk:k≤P.length) :
  (∀t,levCnt t (levOf P f k)=gAt P f k t)∧(∀s∈(levOf P f k).1,s∈P∧(k<P.length→s<P[k]!))∧(∀p∈(levOf P f k).2,p.from_∈P∧p.to_∈P∧p.from_<p.to_∧(k<P.length→p.to_<P[k]!))∧(0<k→(levOf P f k).1.length=f (k - 1)):=by
 induction k with
 |zero=>exact⟨fun t=>rfl,fun s hs=>(by cases hs),fun p hp=>(by cases hp),fun h=>by omega⟩
 |succ k ih =>
  obtain⟨h1,h2,h3,_⟩:=ih (by omega)
  have hkm:P[k]! ∈P:=by rw [getElem!_pos P k (by omega)];exact List.getElem_mem _
  have hup : ∀z,z<P[k]! ∨z=P[k]! →k+1<P.length→z<P[k+1]! := fun z hz h=>by
   have:=asc_at hP (show k<k+1 by omega) h
   omega
  refine⟨fun t=> ?_,fun s hs=> ?_,fun p hp=> ?_,fun _=>levStep_len _ _ _⟩
  ·show levCnt t (levStep (f k) P[k]! (levOf P f k))=if P[k]! ≤t then f k else gAt P f k t
   rw [levStep_cnt _ _ _ _ (fun s hs=>(h2 s hs).2 (by omega)) fun p hp=>by have:=(h3 p hp).2.2.2 (by omega);omega,h1 t]
  ·have hs':s∈(levOf P f k).1.take (f k)++List.replicate (f k - (levOf P f k).1.length) P[k]! := hs
   rcases List.mem_append.1 hs' with hs | hs
   ·have:=h2 s (List.mem_of_mem_take hs)
    exact⟨this.1,hup s (.inl (this.2 (by omega)))⟩
   ·rw [List.eq_of_mem_replicate hs]
    exact⟨hkm,hup _ (.inr rfl)⟩
  ·have hp':p∈(levOf P f k).2++((levOf P f k).1.drop (f k)).reverse.map fun s=>(⟨s,P[k]!⟩:Per):=hp
   rcases List.mem_append.1 hp' with hp | hp
   ·obtain⟨g1,g2,g3,g4⟩:=h3 p hp
    exact⟨g1,g2,g3,hup _ (.inl (g4 (by omega)))⟩
   ·obtain⟨s,hs,rfl⟩:=List.mem_map.1 hp
    have:=h2 s (List.mem_of_mem_drop (List.mem_reverse.1 hs))
    exact⟨this.1,hkm,this.2 (by omega),hup _ (.inr rfl)⟩
def perT (p:Per):Tup:=⟨[],p.from_,p.to_,[]⟩
def levPts (ps:List Per):List Int:=pts (ps.map perT)
def levF (ps:List Per) (i:Nat):Nat:=cntAt (ps.map perT) (levPts ps)[i]!
def levels (ps:List Per):List Per:=(levOf (levPts ps) (levF ps) (levPts ps).length).2
theorem levels_law (ps:List Per) (t:Int):((levels ps).filter (perHas t)).length=cntAt (ps.map perT) t:=by
 obtain⟨p1,p2,_⟩:=pts_law (ps.map perT)
 have hb : ∀x∈bnd (ps.map perT),x∈levPts ps:=fun x hx=>(p2 x).2 hx
 have hlow : ∀k,k<(levPts ps).length→t<(levPts ps)[k]! →gAt (levPts ps) (levF ps) k t=cntAt (ps.map perT) t:=by
  intro k
  induction k with
  |zero=>intro _ h;exact(cnt_out p1 _ hb (.inl h)).symm
  |succ k ih =>
   intro hk h
   unfold gAt
   by_cases c:(levPts ps)[k]! ≤t
   ·rw [if_pos c]
    exact cnt_between p1 hk c h _ hb
   ·rw [if_neg c]
    exact ih (by omega) (by omega)
 obtain⟨h1,_,_,h4⟩:=levOf_law p1 (levF ps) (levPts ps).length (Nat.le_refl _)
 have hall:gAt (levPts ps) (levF ps) (levPts ps).length t=cntAt (ps.map perT) t∧(levOf (levPts ps) (levF ps) (levPts ps).length).1 = []:=by
  rcases Nat.eq_zero_or_pos (levPts ps).length with h0 | h0
  ·rw [h0]
   have hnil:levPts ps = []:=List.length_eq_zero_iff.1 h0
   refine⟨?_,rfl⟩
   show 0=_
   unfold cntAt
   symm
   rw [List.length_eq_zero_iff,List.filter_eq_nil_iff]
   intro x hx hc
   unfold holdsAt at hc
   simp only [Bool.and_eq_true,decide_eq_true_eq]at hc
   have hv:validT x=true:=hc.1.1
   have:x.from_∈levPts ps:=hb _ (by
    unfold bnd
    refine List.mem_flatMap.2 ⟨x,hx,?_⟩
    rw [hv,if_pos rfl]
    simp)
   rw [hnil]at this
   cases this
  ·obtain⟨n,hn⟩ : ∃n,(levPts ps).length=n+1:=⟨(levPts ps).length - 1,by omega⟩
   have hend:levF ps n=0:=by
    unfold levF
    exact cnt_out p1 _ hb (.inr (by show (levPts ps)[(levPts ps).length - 1]! ≤_;rw [hn];exact Int.le_refl _))
   have hlen:=h4 h0
   rw [hn]at hlen ⊢
   simp only [Nat.add_sub_cancel]at hlen
   rw [hend]at hlen
   refine⟨?_,List.length_eq_zero_iff.1 hlen⟩
   unfold gAt
   by_cases c:(levPts ps)[n]! ≤t
   ·rw [if_pos c,hend]
    exact(cnt_out p1 _ hb (.inr (by show (levPts ps)[(levPts ps).length - 1]! ≤_;rw [hn];exact c))).symm
   ·rw [if_neg c]
    exact hlow n (by omega) (by omega)
 have h:levCnt t (levOf (levPts ps) (levF ps) (levPts ps).length)=gAt (levPts ps) (levF ps) (levPts ps).length t:=h1 t
 rw [hall.1]at h
 unfold levCnt at h
 rw [hall.2]at h
 exact h
theorem levels_ends (ps:List Per) : ∀p∈levels ps,p.from_∈levPts ps∧p.to_∈levPts ps∧p.from_<p.to_:=fun p hp=>by
 obtain⟨p1,_,_⟩:=pts_law (ps.map perT)
 obtain⟨_,_,h3,_⟩:=levOf_law p1 (levF ps) (levPts ps).length (Nat.le_refl _)
 exact⟨(h3 p hp).1,(h3 p hp).2.1,(h3 p hp).2.2.1⟩
end Go.Proofs.YtombmdaohcjokaaGreatDoor
namespace Go.Proofs.YtombmdaohcjokaaGreatDoor
open Go.RowKit
def tupRow (t:Tup):Row:=⟨t.vals,t.lin⟩
def sliceRows (l:List Tup) (x:Int):List Row:=(l.filter (holdsAt x)).map tupRow
theorem slice_step (l:List Tup) (x:Int) (k:Nat) (h:k<l.length):sliceRows (l.take (k+1)) x=sliceRows (l.take k) x++if (validB l[k].from_ l[k].to_&&decide (l[k].from_≤x)&&decide (x<l[k].to_))=true then [tupRow l[k]]else []:=by
 rw [List.take_succ_eq_append_getElem h]
 unfold sliceRows
 rw [List.filter_append,List.map_append]
 congr 1
 rw [List.filter_cons,List.filter_nil]
 show List.map tupRow (if holdsAt x l[k]=true then [l[k]]else [])=_
 rw [show holdsAt x l[k]=(validB l[k].from_ l[k].to_&&decide (l[k].from_≤x)&&decide (x<l[k].to_))from rfl]
 split <;> rfl
theorem sliceRows_len (l:List Tup) (x:Int):(sliceRows l x).length=cntAt l x:=by unfold sliceRows cntAt;rw [List.length_map]
end Go.Proofs.YtombmdaohcjokaaGreatDoor
namespace Go.Proofs.YtombmdaohcjokaaGreatDoor
open Go.RowKit
def tupOf (r:Row) (p:Per):Tup:=⟨r.vals,p.from_,p.to_,r.lin⟩
def cmpTup (a b:Tup):Int:=orI [cmpRow (tupRow a) (tupRow b),cmpI a.from_ b.from_,cmpI a.to_ b.to_]
theorem cmpTup_eq (a b:Tup):cmpTup a b=if cmpRow (tupRow a) (tupRow b)=0 then(if cmpI a.from_ b.from_=0 then cmpI a.to_ b.to_ else cmpI a.from_ b.from_)else cmpRow (tupRow a) (tupRow b):=by
 unfold cmpTup orI orI orI orI
 by_cases h1:cmpRow (tupRow a) (tupRow b)=0 <;> by_cases h2:cmpI a.from_ b.from_=0 <;> by_cases h3:cmpI a.to_ b.to_=0 <;> simp [h1,h2,h3]
theorem flat_congr {α β:Type} {f g:α→List β} {l:List α} (h : ∀x∈l,f x=g x):l.flatMap f=l.flatMap g:=by
 induction l with
 |nil=>rfl
 |cons x l ih=>rw [List.flatMap_cons,List.flatMap_cons,h x (by simp),ih fun y hy=>h y (by simp [hy])]
theorem ord_tup:Ord3 cmpTup:=by
 have h:Ord3 fun x y:Row×Int×Int=>if cmpRow x.1 y.1=0 then(if cmpI x.2.1 y.2.1=0 then cmpI x.2.2 y.2.2 else cmpI x.2.1 y.2.1)else cmpRow x.1 y.1 :=
  ord_then ord_row ord_I2 Prod.fst Prod.snd fun _ _ h1 h2=>Prod.ext h1 h2
 have h2:=ord_pull h (fun t:Tup=>(tupRow t,t.from_,t.to_)) fun x y e=>by
  obtain⟨_,_,_,_⟩:=x
  obtain⟨_,_,_,_⟩:=y
  simp only [tupRow,Prod.mk.injEq,Row.mk.injEq]at e
  simp [e]
 have e:cmpTup=fun x y:Tup=>if cmpRow (tupRow x) (tupRow y)=0 then(if cmpI x.from_ y.from_=0 then cmpI x.to_ y.to_ else cmpI x.from_ y.from_)else cmpRow (tupRow x) (tupRow y):=by
  funext a b
  exact cmpTup_eq a b
 rw [e]
 exact h2
section
open Classical
noncomputable def once {α:Type}:List α→List α
 |[]=> []
 |x::l=>if x∈l then once l else x::once l
theorem mem_once {α:Type} {x:α} {l:List α}:x∈once l↔x∈l:=by
 induction l with
 |nil=>rfl
 |cons y l ih =>
  unfold once
  split
  ·rename_i h
   rw [ih,List.mem_cons]
   exact⟨.inr,fun hx=>by rcases hx with rfl | hx;exact h;exact hx⟩
  ·rw [List.mem_cons,List.mem_cons,ih]
theorem once_nodup {α:Type} (l:List α):(once l).Nodup:=by
 induction l with
 |nil=>exact List.nodup_nil
 |cons y l ih =>
  unfold once
  split
  ·exact ih
  ·rename_i h
   exact List.nodup_cons.2 ⟨fun hx=>h (mem_once.1 hx),ih⟩
theorem group_perm {α β:Type} (f:α→β) : ∀(ks:List β) (l:List α),ks.Nodup→(∀x∈l,f x∈ks)→(ks.flatMap fun k=>l.filter fun x=>decide (f x=k)).Perm l:=by
 intro ks
 induction ks with
 |nil =>
  intro l _ h
  cases l with
  |nil=>exact .refl _
  |cons x l=>exact absurd (h x (by simp)) (by simp)
 |cons k ks ih =>
  intro l hn h
  obtain⟨h1,h2⟩:=List.nodup_cons.1 hn
  rw [List.flatMap_cons]
  have e:(ks.flatMap fun k'=>l.filter fun x=>decide (f x=k'))=ks.flatMap fun k'=>(l.filter fun x=> !decide (f x=k)).filter fun x=>decide (f x=k'):=by
   refine flat_congr fun k' hk'=> ?_
   rw [List.filter_filter]
   refine List.filter_congr fun x _=> ?_
   by_cases c:f x=k'
   ·have : ¬f x=k:=fun c2=>h1 (by rw [←c2,c];exact hk')
    simp [c]
    rw [←c];exact this
   ·simp [c]
  rw [e]
  refine((ih _ h2 fun x hx=> ?_).append_left _).trans (List.filter_append_perm _ l)
  obtain⟨g1,g2⟩:=List.mem_filter.1 hx
  rcases List.mem_cons.1 (h x g1)with c | c
  ·simp [c]at g2
  ·exact c
noncomputable def persOf (r:Row) (l:List Tup):List Per:=((l.filter validT).filter fun t=>decide (tupRow t=r)).map tupPer
noncomputable def rowsOf (l:List Tup):List Row:=once ((l.filter validT).map tupRow)
noncomputable def normRaw (ks:List Row) (l:List Tup):List Tup:=ks.flatMap fun r=>(levels (persOf r l)).map (tupOf r)
noncomputable def normT (l:List Tup):List Tup:=sortBy cmpTup (normRaw (rowsOf l) l)
theorem normT_of {l:List Tup} {ks:List Row} (hn:ks.Nodup) (hk : ∀r,r∈ks↔ ∃t∈l,validT t=true∧tupRow t=r) {out:List Tup} (ho:out.Perm (normRaw ks l)):sortBy cmpTup out=normT l:=by
 refine sortBy_unique ord_tup ?_ (sortBy_pair ord_tup _)
 refine(sortBy_perm _ _).trans (ho.trans ?_)
 unfold normRaw
 refine List.Perm.flatMap_right _ ((List.perm_ext_iff_of_nodup hn (once_nodup _)).2 fun r=> ?_)
 rw [hk r,mem_once,List.mem_map]
 constructor
 ·rintro⟨t,h1,h2,h3⟩;exact⟨t,List.mem_filter.2 ⟨h1,h2⟩,h3⟩
 ·rintro⟨t,h1,h3⟩;exact⟨t,(List.mem_filter.1 h1).1,(List.mem_filter.1 h1).2,h3⟩
theorem levels_valid {ps:List Per} (h : ∀p∈ps,validB p.from_ p.to_=true) : ∀p∈levels ps,validB p.from_ p.to_=true:=by
 intro p hp
 obtain⟨h1,h2,h3⟩:=levels_ends ps p hp
 obtain⟨_,p2,_⟩:=pts_law (ps.map perT)
 have key : ∀x,x∈levPts ps→0≤x∧x≤1099511627776:=fun x hx=>by
  have hx:=(p2 x).1 hx
  unfold bnd at hx
  obtain⟨t,ht,hx⟩:=List.mem_flatMap.1 hx
  obtain⟨q,hq,rfl⟩:=List.mem_map.1 ht
  have hv:=validB_lt (h q hq)
  split at hx
  ·simp [perT]at hx;omega
  ·cases hx
 have k1:=key _ h1
 have k2:=key _ h2
 unfold validB
 simp only [Bool.and_eq_true,decide_eq_true_eq]
 omega
theorem persOf_valid (r:Row) (l:List Tup) : ∀p∈persOf r l,validB p.from_ p.to_=true:=by
 intro p hp
 unfold persOf at hp
 obtain⟨t,ht,rfl⟩:=List.mem_map.1 hp
 exact(List.mem_filter.1 (List.mem_filter.1 ht).1).2
theorem norm_row (r:Row) (l:List Tup) (t:Int):sliceRows ((levels (persOf r l)).map (tupOf r)) t=List.replicate ((l.filter (holdsAt t)).filter fun x=>decide (tupRow x=r)).length r:=by
 have e1:((levels (persOf r l)).map (tupOf r)).filter (holdsAt t)=((levels (persOf r l)).filter (perHas t)).map (tupOf r):=by
  rw [List.filter_map]
  congr 1
  refine List.filter_congr fun p hp=> ?_
  have hv:=levels_valid (persOf_valid r l) p hp
  simp only [Function.comp,holdsAt,validT,tupOf,perHas]
  rw [hv,Bool.true_and]
  rfl
 have e2:cntAt ((persOf r l).map perT) t=((l.filter (holdsAt t)).filter fun x=>decide (tupRow x=r)).length:=by
  unfold cntAt persOf
  rw [List.filter_map,List.length_map,List.filter_map,List.length_map,List.filter_filter,List.filter_filter,List.filter_filter]
  congr 2
  funext x
  simp only [Function.comp,perT,tupPer,holdsAt,validT]
  cases validB x.from_ x.to_ <;> simp [Bool.and_comm] <;> rfl
 unfold sliceRows
 rw [e1,List.map_map]
 have e3:(tupRow∘tupOf r)=fun _=>r:=rfl
 rw [e3,List.map_const',levels_law,e2]
theorem slice_flat (ks:List Row) (G:Row→List Tup) (t:Int):sliceRows (ks.flatMap G) t=ks.flatMap fun r=>sliceRows (G r) t:=by
 induction ks with
 |nil=>rfl
 |cons k ks ih =>
  rw [List.flatMap_cons,List.flatMap_cons,←ih]
  unfold sliceRows
  rw [List.filter_append,List.map_append]
theorem normT_rows (l:List Tup) (t:Int):(sliceRows (normT l) t).Perm (sliceRows l t):=by
 have h1:(sliceRows (normT l) t).Perm (sliceRows (normRaw (rowsOf l) l) t):=((sortBy_perm _ _).filter _).map _
 refine h1.trans ?_
 unfold normRaw
 rw [slice_flat]
 have h2:=(group_perm tupRow (rowsOf l) (l.filter (holdsAt t)) (once_nodup _) fun x hx=>mem_once.2 (List.mem_map.2 ⟨x,List.mem_filter.2 ⟨(List.mem_filter.1 hx).1,by
  have:=(List.mem_filter.1 hx).2
  unfold holdsAt at this
  simp only [Bool.and_eq_true]at this
  exact this.1.1⟩,rfl⟩)).map tupRow
 refine List.Perm.trans ?_ h2
 rw [List.map_flatMap]
 refine List.Perm.of_eq (flat_congr fun r _=> ?_)
 rw [norm_row]
 symm
 rw [List.eq_replicate_iff]
 refine⟨List.length_map _,fun x hx=> ?_⟩
 obtain⟨y,hy,rfl⟩:=List.mem_map.1 hx
 simpa using (List.mem_filter.1 hy).2
end
end Go.Proofs.YtombmdaohcjokaaGreatDoor
namespace Go.Proofs.YtombmdaohcjokaaGreatDoor
open Go.RowKit
def clip1 (t:Tup):Option Tup:=if validT t=true∧max t.from_ 0<min t.to_ 1000000 then some ⟨t.vals,max t.from_ 0,min t.to_ 1000000,t.lin⟩else none
def clipT (l:List Tup):List Tup:=l.filterMap clip1
theorem clip_mem {l:List Tup} {t:Tup} (h:t∈clipT l):validT t=true∧0≤t.from_∧t.to_≤1000000:=by
 obtain⟨u,_,hu⟩:=List.mem_filterMap.1 h
 unfold clip1 at hu
 split at hu
 ·rename_i c
  cases hu
  refine⟨?_,by simp only;omega,by simp only;omega⟩
  unfold validT validB
  simp only [Bool.and_eq_true,decide_eq_true_eq]
  omega
 ·cases hu
def gRow (aggV:List (List Val)→List Val) (kv:List Val) (ms:List Tup) (t:Int):Row:=⟨kv++aggV ((ms.filter (holdsAt t)).map Tup.vals),mergeL ((ms.filter (holdsAt t)).flatMap Tup.lin) []⟩
def dayT:Tup:=⟨[],0,1000000,[]⟩
def gPts (always:Bool) (ms:List Tup):List Int:=if always=true then pts (dayT::ms)else pts ms
def gHas (always:Bool) (ms:List Tup) (t:Int):Bool:=always||ms.any (holdsAt t)
def gUpto (aggV:List (List Val)→List Val) (always:Bool) (P:List Int) (kv:List Val) (ms:List Tup):Nat→List Tup
 |0=> []
 |k+1=>gUpto aggV always P kv ms k++if gHas always ms P[k]! = true then [tupOf (gRow aggV kv ms P[k]!) ⟨P[k]!,P[k+1]!⟩]else []
def gOut (aggV:List (List Val)→List Val) (always:Bool) (kv:List Val) (ms:List Tup):List Tup:=gUpto aggV always (gPts always ms) kv ms ((gPts always ms).length - 1)
theorem sliceRows_append (a b:List Tup) (t:Int):sliceRows (a++b) t=sliceRows a t++sliceRows b t:=by
 unfold sliceRows
 rw [List.filter_append,List.map_append]
theorem filter_between {P:List Int} (hP:P.Pairwise (· < ·)) {i:Nat} (hi:i+1<P.length) {t:Int} (h1:P[i]! ≤t) (h2:t<P[i+1]!) (l:List Tup) (hb : ∀x∈bnd l,x∈P):l.filter (holdsAt P[i]!)=l.filter (holdsAt t):=List.filter_congr (hold_between hP hi h1 h2 l hb)
theorem gUpto_at (aggV:List (List Val)→List Val) (always:Bool) {P:List Int} (hP:P.Pairwise (· < ·)) (hv : ∀x∈P,0≤x∧x≤1099511627776) (kv:List Val) (ms:List Tup) (hb : ∀x∈bnd ms,x∈P) (t:Int) (k:Nat) (hk:k<P.length) :
  sliceRows (gUpto aggV always P kv ms k) t=if P[0]! ≤t∧t<P[k]! ∧gHas always ms t=true then [gRow aggV kv ms t]else []:=by
 induction k with
 |zero=>rw [if_neg (by omega)];rfl
 |succ k ih =>
  have hlt:=asc_at hP (show k<k+1 by omega) hk
  have h0k:P[0]! ≤P[k]! := by
   rcases Nat.eq_zero_or_pos k with e | e
   ·subst e;exact Int.le_refl _
   ·have:=asc_at hP e (by omega);omega
  have hm : ∀i,i<P.length→0≤P[i]! ∧P[i]! ≤1099511627776:=fun i hi=>hv _ (by rw [getElem!_pos P i hi];exact List.getElem_mem _)
  have hvk:validB P[k]! P[k+1]! = true:=by
   have a1:=hm k (by omega)
   have a2:=hm (k+1) hk
   unfold validB
   simp only [Bool.and_eq_true,decide_eq_true_eq]
   omega
  have hone : ∀r:Row,sliceRows [tupOf r ⟨P[k]!,P[k+1]!⟩] t=if P[k]! ≤t∧t<P[k+1]! then [r]else []:=fun r=>by
   unfold sliceRows
   rw [List.filter_cons,List.filter_nil]
   have e:holdsAt t (tupOf r ⟨P[k]!,P[k+1]!⟩)=(decide (P[k]! ≤t)&&decide (t<P[k+1]!)):=by
    unfold holdsAt validT tupOf
    simp only
    rw [hvk,Bool.true_and]
   rw [e]
   by_cases c:P[k]! ≤t∧t<P[k+1]!
   ·rw [if_pos c,if_pos (by rw [Bool.and_eq_true,decide_eq_true_eq,decide_eq_true_eq];exact c)]
    rfl
   ·rw [if_neg c,if_neg (by simp only [Bool.and_eq_true,decide_eq_true_eq];exact c)]
    rfl
  unfold gUpto
  rw [sliceRows_append,ih (by omega)]
  by_cases c:P[k]! ≤t∧t<P[k+1]!
  ·have e1:gHas always ms P[k]! = gHas always ms t:=by
    unfold gHas
    congr 1
    rw [Bool.eq_iff_iff,List.any_eq_true,List.any_eq_true]
    constructor
    ·rintro⟨x,hx,h⟩;exact⟨x,hx,by rw [←hold_between hP hk c.1 c.2 ms hb x hx];exact h⟩
    ·rintro⟨x,hx,h⟩;exact⟨x,hx,by rw [hold_between hP hk c.1 c.2 ms hb x hx];exact h⟩
   have e2:gRow aggV kv ms P[k]! = gRow aggV kv ms t:=by
    unfold gRow
    rw [filter_between hP hk c.1 c.2 ms hb]
   rw [if_neg (by omega),List.nil_append,e1,e2]
   by_cases g:gHas always ms t=true
   ·rw [if_pos g,if_pos ⟨by omega,c.2,g⟩,hone,if_pos c]
   ·rw [if_neg g,if_neg fun h=>g h.2.2];rfl
  ·have e1:sliceRows (if gHas always ms P[k]! = true then [tupOf (gRow aggV kv ms P[k]!) ⟨P[k]!,P[k+1]!⟩]else []) t = []:=by
    split
    ·rw [hone,if_neg c]
    ·rfl
   rw [e1,List.append_nil]
   have e2:(P[0]! ≤t∧t<P[k]! ∧gHas always ms t=true)↔(P[0]! ≤t∧t<P[k+1]! ∧gHas always ms t=true):=by
    constructor
    ·rintro⟨a,b,g⟩;exact⟨a,by omega,g⟩
    ·rintro⟨a,b,g⟩;exact⟨a,by omega,g⟩
   simp only [e2]
theorem bnd_rng (l:List Tup) : ∀x∈bnd l,0≤x∧x≤1099511627776:=by
 intro x hx
 unfold bnd at hx
 obtain⟨t,ht,hx⟩:=List.mem_flatMap.1 hx
 split at hx
 ·rename_i hv
  have:=validB_lt hv
  simp at hx
  omega
 ·cases hx
theorem gOut_at (aggV:List (List Val)→List Val) (always:Bool) (kv:List Val) (ms:List Tup) (hm : ∀m∈ms,validT m=true∧0≤m.from_∧m.to_≤1000000) (t:Int) :
  sliceRows (gOut aggV always kv ms) t=if (always=true∧0≤t∧t<1000000)∨(always=false∧ms.any (holdsAt t)=true)then [gRow aggV kv ms t]else []:=by
 cases always with
 |true =>
  obtain⟨p1,p2,_⟩:=pts_law (dayT::ms)
  have hb : ∀x∈bnd ms,x∈pts (dayT::ms):=fun x hx=>(p2 x).2 (by unfold bnd at hx ⊢;rw [List.flatMap_cons];exact List.mem_append_right _ hx)
  have hbd:bnd (dayT::ms) = [0,1000000]++bnd ms:=by unfold bnd;rw [List.flatMap_cons];rfl
  have h0:(0:Int)∈pts (dayT::ms):=(p2 0).2 (by rw [hbd];simp)
  have hF:(1000000:Int)∈pts (dayT::ms):=(p2 _).2 (by rw [hbd];simp)
  have hall : ∀x∈pts (dayT::ms),0≤x∧x≤1000000:=fun x hx=>by
   have hx:=(p2 x).1 hx
   rw [hbd]at hx
   rcases List.mem_append.1 hx with hx | hx
   ·simp at hx;omega
   ·unfold bnd at hx
    obtain⟨m,hmm,hx⟩:=List.mem_flatMap.1 hx
    have:=hm m hmm
    rw [this.1,if_pos rfl]at hx
    have:=validB_lt this.1
    simp at hx
    omega
  have hl:0<(pts (dayT::ms)).length:=List.length_pos_of_mem h0
  have f0:(pts (dayT::ms))[0]! = 0:=by
   have a:=first_le p1 h0
   have b:=hall (pts (dayT::ms))[0]! (by rw [getElem!_pos _ 0 hl];exact List.getElem_mem _)
   omega
  have fF:(pts (dayT::ms))[(pts (dayT::ms)).length - 1]! = 1000000:=by
   have a:=le_last p1 hF
   have b:=hall (pts (dayT::ms))[(pts (dayT::ms)).length - 1]! (by rw [getElem!_pos _ _ (by omega)];exact List.getElem_mem _)
   omega
  show sliceRows (gUpto aggV true (pts (dayT::ms)) kv ms ((pts (dayT::ms)).length - 1)) t=_
  rw [gUpto_at aggV true p1 (fun x hx=>by have:=hall x hx;omega) kv ms hb t _ (by omega),f0,fF]
  simp [gHas]
 |false =>
  obtain⟨p1,p2,_⟩:=pts_law ms
  have hb : ∀x∈bnd ms,x∈pts ms:=fun x hx=>(p2 x).2 hx
  show sliceRows (gUpto aggV false (pts ms) kv ms ((pts ms).length - 1)) t=_
  by_cases h0:0<(pts ms).length
  ·rw [gUpto_at aggV false p1 (fun x hx=>bnd_rng ms x ((p2 x).1 hx)) kv ms hb t _ (by omega)]
   by_cases g:ms.any (holdsAt t)=true
   ·have hc:(pts ms)[0]! ≤t∧t<(pts ms)[(pts ms).length - 1]! := by
     obtain⟨x,hx,hh⟩:=List.any_eq_true.1 g
     unfold holdsAt at hh
     simp only [Bool.and_eq_true,decide_eq_true_eq]at hh
     have hmem : ∀z,z=x.from_∨z=x.to_→z∈pts ms:=fun z hz=>hb z (by
      unfold bnd
      refine List.mem_flatMap.2 ⟨x,hx,?_⟩
      rw [hh.1.1,if_pos rfl]
      rcases hz with rfl | rfl <;> simp)
     have a:=first_le p1 (hmem _ (.inl rfl))
     have b:=le_last p1 (hmem _ (.inr rfl))
     omega
    rw [if_pos ⟨hc.1,hc.2,by simp [gHas,g]⟩,if_pos (.inr ⟨rfl,g⟩)]
   ·rw [if_neg (by rintro⟨_,_,h⟩;simp [gHas]at h;exact g (by simpa using h)),if_neg (by rintro(h | h);exact absurd h.1 (by decide);exact g h.2)]
  ·have e:(pts ms).length - 1=0:=by omega
   have hnil:pts ms = []:=List.length_eq_zero_iff.1 (by omega)
   rw [e]
   rw [if_neg]
   ·rfl
   ·rintro(h | h)
    ·exact absurd h.1 (by decide)
    ·obtain⟨x,hx,hh⟩:=List.any_eq_true.1 h.2
     unfold holdsAt at hh
     simp only [Bool.and_eq_true]at hh
     have:=hb x.from_ (by
      unfold bnd
      refine List.mem_flatMap.2 ⟨x,hx,?_⟩
      rw [hh.1.1,if_pos rfl]
      simp)
     rw [hnil]at this
     cases this
section
open Classical
variable (proj:List Val→List Val) (aggV:List (List Val)→List Val) (always:Bool)
noncomputable def gMem (l:List Tup) (kv:List Val):List Tup:=(clipT l).filter fun t=>decide (proj t.vals=kv)
noncomputable def gKeys (l:List Tup):List (List Val):=if always=true then [[]]else once ((clipT l).map fun t=>proj t.vals)
noncomputable def aggRaw (l:List Tup):List Tup:=(gKeys proj always l).flatMap fun kv=>gOut aggV always kv (gMem proj l kv)
noncomputable def aggT (l:List Tup):List Tup:=normT (aggRaw proj aggV always l)
theorem normT_perm {a b:List Tup} (h:a.Perm b):normT a=normT b:=by
 have hr : ∀r,r∈rowsOf a↔ ∃t∈b,validT t=true∧tupRow t=r:=fun r=>by
  unfold rowsOf
  rw [mem_once,List.mem_map]
  constructor
  ·rintro⟨t,h1,h3⟩;exact⟨t,h.mem_iff.1 (List.mem_filter.1 h1).1,(List.mem_filter.1 h1).2,h3⟩
  ·rintro⟨t,h1,h2,h3⟩;exact⟨t,List.mem_filter.2 ⟨h.mem_iff.2 h1,h2⟩,h3⟩
 refine normT_of (once_nodup _) hr ?_
 unfold normRaw
 refine List.Perm.of_eq (flat_congr fun r _=> ?_)
 have hp:(persOf r a).Perm (persOf r b):=((h.filter _).filter _).map _
 have hpt:pts ((persOf r a).map perT)=pts ((persOf r b).map perT):=by
  have hm:(bnd ((persOf r a).map perT)).Perm (bnd ((persOf r b).map perT)):=(hp.map _).flatMap_right _
  obtain⟨a1,a2,_⟩:=pts_law ((persOf r a).map perT)
  obtain⟨b1,b2,_⟩:=pts_law ((persOf r b).map perT)
  exact List.Perm.eq_of_pairwise (le:=(· < ·)) (fun x y _ _ h1 h2=>by omega) a1 b1 ((List.perm_ext_iff_of_nodup (a1.imp fun h=>by omega) (b1.imp fun h=>by omega)).2 fun x=>by rw [a2,b2,hm.mem_iff])
 have hf:levF (persOf r a)=levF (persOf r b):=by
  funext i
  unfold levF levPts cntAt
  rw [hpt]
  exact((hp.map _).filter _).length_eq
 unfold levels
 rw [hf]
 unfold levPts
 rw [hpt]
end
end Go.Proofs.YtombmdaohcjokaaGreatDoor
