/- joined texts of a proof: BagB, BagC, Ord, Sort, PlainS, BagD, BagE, BagF, BagH -/
import Derived.Test.YtombmdaohcjokaaGreatDoorKX01
import Derived.Shelf.SlSortCmp.NoneTotal
import Derived.Shelf.SlSortCmp.WholeK
import Derived.Sort.LotA
namespace Go.Proofs.YtombmdaohcjokaaGreatDoor
open Go.RowKit
@[reducible] def valV (x:Val):Value:= .agg #[.int .i64 x.kind,.int .i64 x.n,.string x.s]
def cmpS (a b:ByteArray):Int:=Lib.compareBytes a.data.toList b.data.toList
def cmpVal (a b:Val):Int:=orI [cmpI a.kind b.kind,cmpI a.n b.n,cmpS a.s b.s]
theorem or_new (W:World) (l:List Int) (T:TypeId) : ∀k (h:k<l.length),(W.alloc (.cells (l.map (Value.int .i64)).toArray T)).cell? ⟨W.heap.size,0+k,none⟩=some (.int .i64 l[k]):=by
 intro k h
 rw [Nat.zero_add,World.cell?_alloc_at _ _ _ _ rfl]
 simp [h]
set_option maxHeartbeats 1000000 in
theorem compare_val (a b:Val) (w:World):Calls Tryz.prog 120 #[valV a,valV b] w fun e w'=>e = .returned (.int .i64 (cmpVal a b))∧Gro w w':=by
 obtain⟨ak,an,sa⟩:=a
 obtain⟨bk,bn,sb⟩:=b
 unfold cmpVal
 dsimp only
 go_enter Tryz.func120,Tryz.ntmps120
 go_wp2_with fail
 have c1:((w.alloc (.cells #[.int .i64 ak,.int .i64 an,.string sa] 61)).alloc (.cells #[.int .i64 bk,.int .i64 bn,.string sb] 61)).cell? ⟨w.heap.size,0,none⟩=some (.int .i64 ak):=by go_simp
 have c2:((w.alloc (.cells #[.int .i64 ak,.int .i64 an,.string sa] 61)).alloc (.cells #[.int .i64 bk,.int .i64 bn,.string sb] 61)).cell? ⟨w.heap.size,1,none⟩=some (.int .i64 an):=by go_simp
 have c3:((w.alloc (.cells #[.int .i64 ak,.int .i64 an,.string sa] 61)).alloc (.cells #[.int .i64 bk,.int .i64 bn,.string sb] 61)).cell? ⟨w.heap.size,2,none⟩=some (.string sa):=by go_simp
 have c4:((w.alloc (.cells #[.int .i64 ak,.int .i64 an,.string sa] 61)).alloc (.cells #[.int .i64 bk,.int .i64 bn,.string sb] 61)).cell? ⟨w.heap.size+1,0,none⟩=some (.int .i64 bk):=by go_simp
 have c5:((w.alloc (.cells #[.int .i64 ak,.int .i64 an,.string sa] 61)).alloc (.cells #[.int .i64 bk,.int .i64 bn,.string sb] 61)).cell? ⟨w.heap.size+1,1,none⟩=some (.int .i64 bn):=by go_simp
 have c6:((w.alloc (.cells #[.int .i64 ak,.int .i64 an,.string sa] 61)).alloc (.cells #[.int .i64 bk,.int .i64 bn,.string sb] 61)).cell? ⟨w.heap.size+1,2,none⟩=some (.string sb):=by go_simp
 have hxx:=((Gro.refl w).alloc (.cells #[.int .i64 ak,.int .i64 an,.string sa] 61)).alloc (.cells #[.int .i64 bk,.int .i64 bn,.string sb] 61)
 generalize ((w.alloc (.cells #[.int .i64 ak,.int .i64 an,.string sa] 61)).alloc (.cells #[.int .i64 bk,.int .i64 bn,.string sb] 61))=w1 at c1 c2 c3 c4 c5 c6 hxx ⊢
 go_region_held3 (fun w'=>Gro w w'∧w'.cell? ⟨w.heap.size,0,none⟩=some (.int .i64 ak)∧w'.cell? ⟨w.heap.size,1,none⟩=some (.int .i64 an)∧w'.cell? ⟨w.heap.size,2,none⟩=some (.string sa)∧w'.cell? ⟨w.heap.size+1,0,none⟩=some (.int .i64 bk)∧w'.cell? ⟨w.heap.size+1,1,none⟩=some (.int .i64 bn)∧w'.cell? ⟨w.heap.size+1,2,none⟩=some (.string sb))
  (first |exact⟨hxx.drew,c1,c2,c3,c4,c5,c6⟩ | assumption | exact keepG6 (by assumption) ((Gro.refl _).alloc _))
  (first |(go_at_call 174;refine(compare_int _ _ _).mono ?_;rintro e w2 ⟨rfl,rfl⟩) | (go_at_call 175;refine(compare_int64 _ _ _).mono ?_;rintro e w2 ⟨rfl,rfl⟩) | (go_at_call 176;refine(Tryz.strings_Compare _ _ _).mono ?_;rintro e w2 ⟨rfl,rfl⟩) | (go_at_call 157;refine(or_any w1.heap.size 0 3 [cmpI ak bk,cmpI an bn,cmpS sa sb] _ (by simp [maxLen]) (by exact fun k hk=>or_new w1 [cmpI ak bk,cmpI an bn,cmpS sa sb] 3 k hk)).mono ?_;rintro e w2 ⟨rfl,rfl⟩))
 all_goals (obtain⟨hfin,_⟩:= ‹Gro w _∧_›)
 all_goals go_wp2_with fail
 all_goals go_ret
 all_goals exact⟨rfl,hfin⟩
end Go.Proofs.YtombmdaohcjokaaGreatDoor
namespace Go.Proofs.YtombmdaohcjokaaGreatDoor
open Go.RowKit
def lexI {α:Type} (c:α→α→Int):List α→List α→Int
 |[],[]=>0
 |[],_::_=> -1
 |_::_,[]=>1
 |x::xs,y::ys=>if c x y=0 then lexI c xs ys else c x y
theorem lexI_drop {α:Type} (c:α→α→Int) (l l':List α) (k:Nat) (h:k<l.length) (h':k<l'.length) :
  lexI c (l.drop k) (l'.drop k)=if c l[k] l'[k]=0 then lexI c (l.drop (k+1)) (l'.drop (k+1))else c l[k] l'[k]:=by
 rw [List.drop_eq_getElem_cons h,List.drop_eq_getElem_cons h'];rfl
theorem lexI_long {α:Type} (c:α→α→Int) (l l':List α) (k:Nat) (h:k<l.length) (h':l'.length≤k):lexI c (l.drop k) (l'.drop k)=1:=by
 rw [List.drop_eq_getElem_cons h,List.drop_eq_nil_of_le h'];rfl
theorem lexI_end {α:Type} (c:α→α→Int) (l l':List α):lexI c (l.drop l.length) (l'.drop l.length)=if l.length<l'.length then -1 else 0:=by
 rw [List.drop_length]
 split
 ·rw [List.drop_eq_getElem_cons (by assumption)];rfl
 ·rw [List.drop_eq_nil_of_le (by omega)];rfl
def cmpVals:List Val→List Val→Int:=lexI cmpVal
def cmpInts:List Int→List Int→Int:=lexI cmpI
set_option maxHeartbeats 2000000 in
theorem compareFunc_val (va vb:Value) (l l':List Val) (w:World) (ha:SliceOf Rep.val w.cell? va l) (hb:SliceOf Rep.val w.cell? vb l') :
  Calls Tryz.prog 119 #[va,vb,.func (.func 120) #[] #[]] w
   fun e w'=>e = .returned (.int .i64 (cmpVals l l'))∧Gro w w':=by
 obtain⟨pa,ca,rfl,ha1,ha2,ha3⟩:=ha.form
 obtain⟨pb,cb,rfl,hb1,hb2,hb3⟩:=hb.form
 unfold maxLen at ha2 hb2
 go_enter Tryz.func119,Tryz.ntmps119
 go_wp2_with fail
 go_loopg [13] l.length (fun gk i wr=> ∃k:Nat,k≤l.length∧gk=l.length - k∧i = .int .i64 k∧(k≤l'.length∧cmpVals l l'=lexI cmpVal (l.drop k) (l'.drop k))∧Gro w wr)
 case atStart=>exact⟨0,by omega,rfl,rfl,⟨by omega,rfl⟩,Gro.refl w⟩
 case round =>
  obtain⟨k,hk,rfl,rfl,⟨hk2,hc⟩,hx⟩:=hrel
  have HC:=Lib.hid hc
  clear hc
  by_cases hlt:k<l.length
  ·obtain⟨ba,oa,rfl⟩:=ha3 (by decide) (by omega)
   obtain⟨c1,c2,c3⟩:=val_at ha k hlt
   replace c1:=hx.at c1
   replace c2:=hx.at c2
   replace c3:=hx.at c3
   have hd:decide ((k:Int)<(l.length:Int))=true:=by simp;omega
   by_cases hlt2:k<l'.length
   ·obtain⟨bb,ob,rfl⟩:=hb3 (by decide) (by omega)
    obtain⟨d1,d2,d3⟩:=val_at hb k hlt2
    replace d1:=hx.at d1
    replace d2:=hx.at d2
    replace d3:=hx.at d3
    have hdr:=lexI_drop cmpVal l l' k hlt hlt2
    have hd2:(k:Int)<(l'.length:Int):=by omega
    generalize l[k]=x at c1 c2 c3 hdr
    generalize l'[k]=y at d1 d2 d3 hdr
    have HD:=Lib.hid hdr
    clear hdr ha hb ha3 hb3
    have e1:=cell_lt c1
    have e2:=cell_lt d1
    go_wp2_with fail
    refine(compare_val x y _).mono ?_
    rintro e w1 ⟨rfl,hx1⟩
    replace hx:=((hx.alloc _).alloc _).trans hx1
    clear hx1 c1 c2 c3 d1 d2 d3 e1 e2
    generalize hq:cmpVal x y=q
    have HQ:=Lib.hid hq
    clear hq
    by_cases hq0:q=0
    ·have hqb:(q != 0)=false:=by simp [hq0]
     have HQ0:=Lib.hid hq0
     clear hq0
     go_wp2_with fail
     go_roundg (l.length - (k+1))
     case measure=>omega
     case rel=>exact⟨k+1,by omega,rfl,by go_num,⟨by omega,by rw [HC.out,HD.out,HQ.out,if_pos HQ0.out]⟩,hx⟩
    ·have hqb:(q != 0)=true:=by simp [hq0]
     have HQ0:=Lib.hid hq0
     clear hq0
     go_wp2_with fail
     go_ret
     exact⟨ret_int (by rw [HC.out,HD.out,HQ.out,if_neg HQ0.out]),hx⟩
   ·have hlg:=lexI_long cmpVal l l' k hlt (by omega)
    have HL:=Lib.hid hlg
    clear hlg
    go_wp2_with fail
    go_ret
    exact⟨ret_int (by rw [HC.out,HL.out]),hx.alloc _⟩
  ·have:k=l.length:=by omega
   subst this
   have hen:=lexI_end cmpVal l l'
   have HE:=Lib.hid hen
   clear hen
   by_cases hll:l.length<l'.length
   ·go_wp2_with fail
    go_ret
    exact⟨ret_int (by rw [HC.out,HE.out,if_pos hll]),hx⟩
   ·go_wp2_with fail
    go_ret
    exact⟨ret_int (by rw [HC.out,HE.out,if_neg hll]),hx⟩
theorem compareRows_any (va vb:Value) (l l':List Val) (w:World) (ha:SliceOf Rep.val w.cell? va l) (hb:SliceOf Rep.val w.cell? vb l') :
  Calls Tryz.prog 72 #[va,vb] w fun e w'=>e = .returned (.int .i64 (cmpVals l l'))∧Gro w w':=by
 have HA:=Lib.hid ha
 have HB:=Lib.hid hb
 obtain⟨pa,ca,rfl,_⟩:=ha.form
 obtain⟨pb,cb,rfl,_⟩:=hb.form
 clear ha hb
 go_enter Tryz.func72,Tryz.ntmps72
 go_wp2_with fail
 refine(compareFunc_val _ _ _ _ _ HA.out HB.out).mono ?_
 rintro e w1 ⟨rfl,hx⟩
 go_wp2_with fail
 go_ret
 exact⟨rfl,hx⟩
set_option maxHeartbeats 2000000 in
theorem compare_ints (va vb:Value) (l l':List Int) (w:World) (ha:SliceOf Rep.int w.cell? va l) (hb:SliceOf Rep.int w.cell? vb l') :
  Calls Tryz.prog 158 #[va,vb] w
   fun e w'=>e = .returned (.int .i64 (cmpInts l l'))∧Gro w w':=by
 obtain⟨pa,ca,rfl,ha1,ha2,ha3⟩:=ha.form
 obtain⟨pb,cb,rfl,hb1,hb2,hb3⟩:=hb.form
 unfold maxLen at ha2 hb2
 go_enter Tryz.func158,Tryz.ntmps158
 go_wp2_with fail
 go_loopg [11] l.length (fun gk i wr=> ∃k:Nat,k≤l.length∧gk=l.length - k∧i = .int .i64 k∧(k≤l'.length∧cmpInts l l'=lexI cmpI (l.drop k) (l'.drop k))∧Gro w wr)
 case atStart=>exact⟨0,by omega,rfl,rfl,⟨by omega,rfl⟩,Gro.refl w⟩
 case round =>
  obtain⟨k,hk,rfl,rfl,⟨hk2,hc⟩,hx⟩:=hrel
  have HC:=Lib.hid hc
  clear hc
  by_cases hlt:k<l.length
  ·obtain⟨ba,oa,rfl⟩:=ha3 (by decide) (by omega)
   obtain⟨c1,_⟩:=int_at ha k hlt
   replace c1:=hx.at c1
   have hd:decide ((k:Int)<(l.length:Int))=true:=by simp;omega
   by_cases hlt2:k<l'.length
   ·obtain⟨bb,ob,rfl⟩:=hb3 (by decide) (by omega)
    obtain⟨d1,_⟩:=int_at hb k hlt2
    replace d1:=hx.at d1
    have hdr:=lexI_drop cmpI l l' k hlt hlt2
    have hd2:(k:Int)<(l'.length:Int):=by omega
    generalize l[k]=x at c1 hdr
    generalize l'[k]=y at d1 hdr
    have HD:=Lib.hid hdr
    clear hdr ha hb ha3 hb3
    go_wp2_with fail
    refine(compare_int x y _).mono ?_
    rintro e w1 ⟨rfl,rfl⟩
    clear c1 d1
    generalize hq:cmpI x y=q
    have HQ:=Lib.hid hq
    clear hq
    by_cases hq0:q=0
    ·have hqb:(q != 0)=false:=by simp [hq0]
     have HQ0:=Lib.hid hq0
     clear hq0
     go_wp2_with fail
     go_roundg (l.length - (k+1))
     case measure=>omega
     case rel=>exact⟨k+1,by omega,rfl,by go_num,⟨by omega,by rw [HC.out,HD.out,HQ.out,if_pos HQ0.out]⟩,hx⟩
    ·have hqb:(q != 0)=true:=by simp [hq0]
     have HQ0:=Lib.hid hq0
     clear hq0
     go_wp2_with fail
     go_ret
     exact⟨ret_int (by rw [HC.out,HD.out,HQ.out,if_neg HQ0.out]),hx⟩
   ·have hlg:=lexI_long cmpI l l' k hlt (by omega)
    have HL:=Lib.hid hlg
    clear hlg
    go_wp2_with fail
    go_ret
    exact⟨ret_int (by rw [HC.out,HL.out]),hx⟩
  ·have:k=l.length:=by omega
   subst this
   have hen:=lexI_end cmpI l l'
   have HE:=Lib.hid hen
   clear hen
   by_cases hll:l.length<l'.length
   ·go_wp2_with fail
    go_ret
    exact⟨ret_int (by rw [HC.out,HE.out,if_pos hll]),hx⟩
   ·go_wp2_with fail
    go_ret
    exact⟨ret_int (by rw [HC.out,HE.out,if_neg hll]),hx⟩
def cmpRow (a b:Row):Int:=orI [cmpVals a.vals b.vals,cmpInts a.lin b.lin]
set_option maxHeartbeats 1000000 in
theorem compareRow_any (va vb ua ub:Value) (a b:Row) (w:World) (ha:SliceOf Rep.val w.cell? va a.vals) (hb:SliceOf Rep.val w.cell? vb b.vals) (ka:SliceOf Rep.int w.cell? ua a.lin) (kb:SliceOf Rep.int w.cell? ub b.lin) :
  Calls Tryz.prog 103 #[.agg #[va,ua],.agg #[vb,ub]] w fun e w'=>e = .returned (.int .i64 (cmpRow a b))∧Gro w w':=by
 have HA:=Lib.hid ha
 have HB:=Lib.hid hb
 have KA:=Lib.hid ka
 have KB:=Lib.hid kb
 obtain⟨pa,ca,rfl,_⟩:=ha.form
 obtain⟨pb,cb,rfl,_⟩:=hb.form
 obtain⟨qa,da,rfl,_⟩:=ka.form
 obtain⟨qb,db,rfl,_⟩:=kb.form
 unfold cmpRow
 generalize a.vals=av at *
 generalize b.vals=bv at *
 generalize a.lin=al at *
 generalize b.lin=bl at *
 clear ha hb ka kb
 go_enter Tryz.func103,Tryz.ntmps103
 go_wp2_with fail
 have c1:((w.alloc (.cells #[.slice pa av.length ca,.slice qa al.length da] 58)).alloc (.cells #[.slice pb bv.length cb,.slice qb bl.length db] 58)).cell? ⟨w.heap.size,0,none⟩=some (.slice pa av.length ca):=by go_simp
 have c2:((w.alloc (.cells #[.slice pa av.length ca,.slice qa al.length da] 58)).alloc (.cells #[.slice pb bv.length cb,.slice qb bl.length db] 58)).cell? ⟨w.heap.size,1,none⟩=some (.slice qa al.length da):=by go_simp
 have c3:((w.alloc (.cells #[.slice pa av.length ca,.slice qa al.length da] 58)).alloc (.cells #[.slice pb bv.length cb,.slice qb bl.length db] 58)).cell? ⟨w.heap.size+1,0,none⟩=some (.slice pb bv.length cb):=by go_simp
 have c4:((w.alloc (.cells #[.slice pa av.length ca,.slice qa al.length da] 58)).alloc (.cells #[.slice pb bv.length cb,.slice qb bl.length db] 58)).cell? ⟨w.heap.size+1,1,none⟩=some (.slice qb bl.length db):=by go_simp
 have hxx:=((Gro.refl w).alloc (.cells #[.slice pa av.length ca,.slice qa al.length da] 58)).alloc (.cells #[.slice pb bv.length cb,.slice qb bl.length db] 58)
 generalize ((w.alloc (.cells #[.slice pa av.length ca,.slice qa al.length da] 58)).alloc (.cells #[.slice pb bv.length cb,.slice qb bl.length db] 58))=w1 at c1 c2 c3 c4 hxx ⊢
 go_region_held3 (fun w'=>Gro w w'∧w'.cell? ⟨w.heap.size,0,none⟩=some (.slice pa av.length ca)∧w'.cell? ⟨w.heap.size,1,none⟩=some (.slice qa al.length da)∧w'.cell? ⟨w.heap.size+1,0,none⟩=some (.slice pb bv.length cb)∧w'.cell? ⟨w.heap.size+1,1,none⟩=some (.slice qb bl.length db))
  (first |exact⟨hxx.drew,c1,c2,c3,c4⟩ | assumption | exact keepG4 (by assumption) hx3 | exact keepG4 (by assumption) hx2 | exact keepG4 (by assumption) ((Gro.refl _).alloc _))
  (first |(go_at_call 72;refine(compareRows_any _ _ av bv _ (by exact HA.out.ext (And.left ‹Gro w _∧_›).ext.full) (by exact HB.out.ext (And.left ‹Gro w _∧_›).ext.full)).mono ?_;rintro e w2 ⟨rfl,hx2⟩) | (go_at_call 158;refine(compare_ints _ _ al bl _ (by exact KA.out.ext (And.left ‹Gro w _∧_›).ext.full) (by exact KB.out.ext (And.left ‹Gro w _∧_›).ext.full)).mono ?_;rintro e w3 ⟨rfl,hx3⟩) | (go_at_call 157;refine(or_any _ 0 2 [cmpVals av bv,cmpInts al bl] _ (by simp [maxLen]) (by exact fun k hk=>or_new w3 [cmpVals av bv,cmpInts al bl] 3 k hk)).mono ?_;rintro e w4 ⟨rfl,rfl⟩))
 all_goals (obtain⟨hfin,_⟩:= ‹Gro w _∧_›)
 all_goals go_wp2_with fail
 all_goals go_ret
 all_goals exact⟨rfl,hfin⟩
end Go.Proofs.YtombmdaohcjokaaGreatDoor
namespace Go.Proofs.YtombmdaohcjokaaGreatDoor
structure Ord3 {α:Type} (c:α→α→Int):Prop where
 rng : ∀x y,c x y = -1∨c x y=0∨c x y=1
 eq : ∀x y,c x y=0↔x=y
 anti : ∀x y,c y x = -c x y
 tr : ∀x y z,c x y<0→c y z<0→c x z<0
theorem ord_int:Ord3 cmpI where
 rng x y:=by unfold cmpI;(repeat' split) <;> omega
 eq x y:=by unfold cmpI;(repeat' split) <;> omega
 anti x y:=by unfold cmpI;(repeat' split) <;> omega
 tr x y z:=by unfold cmpI;(repeat' split) <;> omega
theorem ord_bytes:Ord3 Lib.compareBytes where
 rng x:=by
  induction x with
  |nil=>intro y;cases y <;> simp [Lib.compareBytes]
  |cons a x ih=>intro y;cases y with
   |nil=>simp [Lib.compareBytes]
   |cons b y =>
    simp only [Lib.compareBytes]
    split
    ·simp
    ·split
     ·simp
     ·exact ih y
 eq x:=by
  induction x with
  |nil=>intro y;cases y <;> simp [Lib.compareBytes]
  |cons a x ih=>intro y;cases y with
   |nil=>simp [Lib.compareBytes]
   |cons b y =>
    simp only [Lib.compareBytes,List.cons.injEq]
    split
    ·rename_i h
     simp
     intro e;subst e;simp at h
    ·split
     ·rename_i h
      simp
      intro e;subst e;simp at h
     ·rename_i h1 h2
      have:a=b:=UInt8.le_antisymm (UInt8.not_lt.1 h2) (UInt8.not_lt.1 h1)
      simp [this,ih y]
 anti x:=by
  induction x with
  |nil=>intro y;cases y <;> simp [Lib.compareBytes]
  |cons a x ih=>intro y;cases y with
   |nil=>simp [Lib.compareBytes]
   |cons b y =>
    simp only [Lib.compareBytes]
    by_cases h1:a<b
    ·have h2 : ¬b<a:=UInt8.not_lt.2 (UInt8.le_of_lt h1)
     simp [h1,h2]
    ·by_cases h2:b<a
     ·simp [h1,h2]
     ·simp [h1,h2,ih y]
 tr x:=by
  induction x with
  |nil=>intro y z;cases y <;> cases z <;> simp [Lib.compareBytes]
  |cons a x ih=>intro y z;cases y with
   |nil=>simp [Lib.compareBytes]
   |cons b y=>cases z with
    |nil=>simp [Lib.compareBytes]
    |cons d z =>
     simp only [Lib.compareBytes]
     intro h1 h2
     by_cases ab:a<b
     ·by_cases bd:b<d
      ·simp [UInt8.lt_trans ab bd]
      ·by_cases db:d<b
       ·simp [bd,db]at h2
       ·have:b=d:=UInt8.le_antisymm (UInt8.not_lt.1 db) (UInt8.not_lt.1 bd)
        subst this
        simp [ab]
     ·by_cases ba:b<a
      ·simp [ab,ba]at h1
      ·have:a=b:=UInt8.le_antisymm (UInt8.not_lt.1 ba) (UInt8.not_lt.1 ab)
       subst this
       simp [ab]at h1
       by_cases bd:a<d
       ·simp [bd]
       ·by_cases db:d<a
        ·simp [bd,db]at h2
        ·simp [bd,db]at h2 ⊢
         exact ih y z h1 h2
theorem ord_pull {α β:Type} {c:β→β→Int} (h:Ord3 c) (f:α→β) (inj : ∀x y,f x=f y→x=y):Ord3 fun x y=>c (f x) (f y) where
 rng x y:=h.rng _ _
 eq x y:=(h.eq _ _).trans ⟨inj x y,fun e=>by rw [e]⟩
 anti x y:=h.anti _ _
 tr x y z:=h.tr _ _ _
theorem ord_then {α β γ:Type} {c:β→β→Int} {d:γ→γ→Int} (h:Ord3 c) (k:Ord3 d) (f:α→β) (g:α→γ) (inj : ∀x y,f x=f y→g x=g y→x=y) :
  Ord3 fun x y=>if c (f x) (f y)=0 then d (g x) (g y)else c (f x) (f y) where
 rng x y:=by
  split
  ·exact k.rng _ _
  ·exact h.rng _ _
 eq x y:=by
  split
  ·rename_i e
   exact⟨fun e2=>inj x y ((h.eq _ _).1 e) ((k.eq _ _).1 e2),fun e2=>(k.eq _ _).2 (by rw [e2])⟩
  ·rename_i e
   exact⟨fun e2=>(e e2).elim,fun e2=>(h.eq _ _).2 (by rw [e2])⟩
 anti x y:=by
  rw [h.anti (f x) (f y),k.anti (g x) (g y)]
  split <;> split <;> omega
 tr x y z:=by
  intro h1 h2
  by_cases e1:c (f x) (f y)=0
  ·rw [if_pos e1]at h1
   have:f x=f y:=(h.eq _ _).1 e1
   rw [this]
   by_cases e2:c (f y) (f z)=0
   ·rw [if_pos e2]at h2 ⊢
    exact k.tr _ _ _ h1 h2
   ·rw [if_neg e2]at h2 ⊢
    exact h2
  ·rw [if_neg e1]at h1
   by_cases e2:c (f y) (f z)=0
   ·have:f y=f z:=(h.eq _ _).1 e2
    rw [←this,if_neg e1]
    exact h1
   ·rw [if_neg e2]at h2
    have:=h.tr _ _ _ h1 h2
    rw [if_neg (by omega)]
    exact this
theorem ord_lex {α:Type} {c:α→α→Int} (h:Ord3 c):Ord3 (lexI c) where
 rng x:=by
  induction x with
  |nil=>intro y;cases y <;> simp [lexI]
  |cons a x ih=>intro y;cases y with
   |nil=>simp [lexI]
   |cons b y =>
    simp only [lexI]
    split
    ·exact ih y
    ·exact h.rng _ _
 eq x:=by
  induction x with
  |nil=>intro y;cases y <;> simp [lexI]
  |cons a x ih=>intro y;cases y with
   |nil=>simp [lexI]
   |cons b y =>
    simp only [lexI,List.cons.injEq]
    split
    ·rename_i e
     rw [ih y]
     simp [(h.eq _ _).1 e]
    ·rename_i e
     simp [e]
     intro e2
     exact(e ((h.eq _ _).2 e2)).elim
 anti x:=by
  induction x with
  |nil=>intro y;cases y <;> simp [lexI]
  |cons a x ih=>intro y;cases y with
   |nil=>simp [lexI]
   |cons b y =>
    simp only [lexI]
    rw [h.anti a b,ih y]
    split <;> split <;> omega
 tr x:=by
  induction x with
  |nil=>intro y z;cases y <;> cases z <;> simp [lexI]
  |cons a x ih=>intro y z;cases y with
   |nil=>simp [lexI]
   |cons b y=>cases z with
    |nil=>simp [lexI]
    |cons d z =>
     simp only [lexI]
     intro h1 h2
     by_cases e1:c a b=0
     ·have:a=b:=(h.eq _ _).1 e1
      subst this
      rw [if_pos e1]at h1
      by_cases e2:c a d=0
      ·rw [if_pos e2]at h2 ⊢
       exact ih _ _ h1 h2
      ·rw [if_neg e2]at h2 ⊢
       exact h2
     ·rw [if_neg e1]at h1
      by_cases e2:c b d=0
      ·have:b=d:=(h.eq _ _).1 e2
       subst this
       rw [if_neg e1]
       exact h1
      ·rw [if_neg e2]at h2
       have:=h.tr _ _ _ h1 h2
       rw [if_neg (by omega)]
       exact this
theorem ord_str:Ord3 cmpS:=ord_pull ord_bytes (fun s:ByteArray=>s.data.toList) fun x y h=>by
 obtain⟨⟨x⟩⟩:=x
 obtain⟨⟨y⟩⟩:=y
 simp at h
 rw [h]
theorem ord_val:Ord3 cmpVal:=by
 have h:=ord_then (α:=Val) ord_int (ord_then (α:=Int×ByteArray) ord_int ord_str (fun p=>p.1) (fun p=>p.2) (fun x y h1 h2=>Prod.ext h1 h2)) (fun v=>v.kind) (fun v=>(v.n,v.s))
  (fun x y h1 h2=>by cases x;cases y;simp at h1 h2;rw [h1,h2.1,h2.2])
 have e:(fun x y:Val=>if cmpI x.kind y.kind=0 then(if cmpI x.n y.n=0 then cmpS x.s y.s else cmpI x.n y.n)else cmpI x.kind y.kind)=cmpVal:=by
  funext x y
  unfold cmpVal orI orI orI orI
  split
  ·split
   ·split
    ·omega
    ·rfl
   ·rfl
  ·rfl
 rw [←e];exact h
theorem ord_vals:Ord3 cmpVals:=ord_lex ord_val
theorem ord_ints:Ord3 cmpInts:=ord_lex ord_int
theorem ord_row:Ord3 cmpRow:=by
 have h:=ord_then ord_vals ord_ints (fun r:Row=>r.vals) (fun r=>r.lin) (fun x y h1 h2=>by cases x;cases y;simp at h1 h2;rw [h1,h2])
 have e:(fun x y:Row=>if cmpVals x.vals y.vals=0 then cmpInts x.lin y.lin else cmpVals x.vals y.vals)=cmpRow:=by
  funext x y
  unfold cmpRow orI orI orI
  split
  ·split
   ·omega
   ·rfl
  ·rfl
 rw [←e];exact h
end Go.Proofs.YtombmdaohcjokaaGreatDoor
namespace Go.Proofs.YtombmdaohcjokaaGreatDoor
open Go.RowKit Go.Shelf Go.Sort
def sortBy {α:Type} (c:α→α→Int) (l:List α):List α:=l.mergeSort fun a b=>decide (c a b≤0)
theorem Ord3.le_tr {α:Type} {c:α→α→Int} (h:Ord3 c) (x y z:α) (h1:c x y≤0) (h2:c y z≤0):c x z≤0:=by
 by_cases e1:c x y=0
 ·rw [(h.eq _ _).1 e1];exact h2
 ·by_cases e2:c y z=0
  ·rw [←(h.eq _ _).1 e2];exact h1
  ·have:=h.tr x y z (by omega) (by omega);omega
theorem Ord3.le_total {α:Type} {c:α→α→Int} (h:Ord3 c) (x y:α):c x y≤0∨c y x≤0:=by
 have:=h.anti x y
 omega
theorem Ord3.le_anti {α:Type} {c:α→α→Int} (h:Ord3 c) (x y:α) (h1:c x y≤0) (h2:c y x≤0):x=y:=by
 have:=h.anti x y
 exact(h.eq x y).1 (by omega)
theorem sortBy_perm {α:Type} (c:α→α→Int) (l:List α):(sortBy c l).Perm l:=List.mergeSort_perm _ _
theorem sortBy_pair {α:Type} {c:α→α→Int} (h:Ord3 c) (l:List α):(sortBy c l).Pairwise fun a b=>c a b≤0:=by
 have:=List.pairwise_mergeSort (le:=fun a b=>decide (c a b≤0)) (fun a b d h1 h2=>by simp only [decide_eq_true_eq]at *;exact h.le_tr a b d h1 h2)
  (fun a b=>by simp only [Bool.or_eq_true,decide_eq_true_eq];exact h.le_total a b) l
 exact this.imp (by simp)
theorem sortBy_unique {α:Type} {c:α→α→Int} (h:Ord3 c) {l l':List α} (hp:l'.Perm l) (hs:l'.Pairwise fun a b=>c a b≤0):l'=sortBy c l :=
 List.Perm.eq_of_pairwise (le:=fun a b=>c a b≤0) (fun a b _ _ h1 h2=>h.le_anti a b h1 h2) hs (sortBy_pair h l) (hp.trans (sortBy_perm c l).symm)
theorem sortBy_length {α:Type} (c:α→α→Int) (l:List α):(sortBy c l).length=l.length:=(sortBy_perm c l).length_eq
theorem Ord3.swo {α:Type} {c:α→α→Int} (h:Ord3 c):SWO (ltOf c) where
 irrefl x:=by unfold ltOf;rw [(h.eq x x).2 rfl];rfl
 trans x y z h1 h2:=by unfold ltOf at *;simp only [decide_eq_true_eq]at *;exact h.tr x y z h1 h2
 ntrans x y z h1 h2:=by
  unfold ltOf at *
  simp only [decide_eq_false_iff_not]at *
  have a1:=h.anti x y
  have a2:=h.anti y z
  have a3:=h.anti x z
  have:=h.le_tr z y x (by omega) (by omega)
  omega
theorem repAll_len' {α:Type} {R:Rep α} {h:View} {css:List (List Value)} {ys:List α} (k:RepAll R h css ys) : ∀c∈css,c.length=R.size:=by
 induction css generalizing ys with
 |nil=>simp
 |cons c css ih =>
  cases ys with
  |nil=>exact k.elim
  |cons y ys =>
   intro d hd
   rcases List.mem_cons.1 hd with rfl | hd
   ·exact R.len k.1
   ·exact ih k.2 d hd
theorem flatK_toList {β:Type} [Inhabited β] (enc:β→List Value) (k:Nat) (hk : ∀x,(enc x).length=k) (d:Array β):(flatK enc k d).toList=(d.toList.map enc).flatten:=by
 apply List.ext_getElem?
 intro t
 have hlen : ∀l:List β,((l.map enc).flatten).length=l.length*k:=by
  intro l
  induction l with
  |nil=>simp
  |cons x l ih=>rw [List.map_cons,List.flatten_cons,List.length_append,hk,ih,List.length_cons,Nat.succ_mul];omega
 by_cases ht:t<d.size*k
 ·have hkp:0<k:=by
   rcases Nat.eq_zero_or_pos k with h | h
   ·subst h;simp at ht
   ·exact h
  have h1:=get_flatK enc k d t ht
  rw [getElem!_pos _ t (by simpa using ht)]at h1
  rw [Array.getElem?_toList,Array.getElem?_eq_getElem (by simpa using ht),h1]
  have hdiv:t / k<d.size:=by rw [Nat.div_lt_iff_lt_mul hkp];exact ht
  have hmod:t % k<k:=Nat.mod_lt _ hkp
  have key : ∀(l:List β) (i r:Nat) (x:β),l[i]?=some x→r<k→(l.map enc).flatten[i*k+r]?=some ((enc x)[r]!):=by
   intro l
   induction l with
   |nil=>intro i r x h;simp at h
   |cons y l ih =>
    intro i r x h hr
    cases i with
    |zero =>
     simp at h
     subst h
     rw [List.map_cons,List.flatten_cons,Nat.zero_mul,Nat.zero_add,List.getElem?_append_left (by rw [hk];exact hr)]
     rw [getElem!_pos _ r (by rw [hk];exact hr),List.getElem?_eq_getElem]
    |succ i =>
     rw [List.map_cons,List.flatten_cons,List.getElem?_append_right (by rw [hk,Nat.succ_mul];omega),hk]
     rw [show (i+1)*k+r - k=i*k+r from by rw [Nat.succ_mul];omega]
     exact ih i r x (by simpa using h) hr
  have:=key d.toList (t / k) (t % k) (d[t / k]!) (by rw [getElem!_pos d _ hdiv,Array.getElem?_toList,Array.getElem?_eq_getElem hdiv]) hmod
  rw [show t / k*k+t % k=t from by rw [Nat.mul_comm];exact Nat.div_add_mod t k]at this
  rw [this]
 ·rw [List.getElem?_eq_none (by simpa using Nat.le_of_not_lt ht),List.getElem?_eq_none (by rw [hlen];simpa using Nat.le_of_not_lt ht)]
theorem repAll_map {α β:Type} (R:Rep α) (h:View) (l:List β) (f:β→List Value) (g:β→α) (hl : ∀i∈l,R.holds h (f i) (g i)):RepAll R h (l.map f) (l.map g):=by
 induction l with
 |nil=>trivial
 |cons i l ih=>exact⟨hl i (by simp),ih fun j hj=>hl j (by simp [hj])⟩
section
variable {β:Type} [Inhabited β] (enc:β→List Value) (k:Nat) (w:World) (blk off m:Nat) (dk:Array β) (os:Array Obj)
theorem sortWorld_block (i:Nat) (hi:i<w.heap.size) (hne:i≠blk):(sortWorldK enc k w blk off m dk os).heap[i]?=w.heap[i]?:=by
 unfold sortWorldK
 rw [heap_grow_old _ _ (by simpa [putRowK,putRow,mapBlock,ahead] using hi)]
 simp [putRowK,putRow,mapBlock,Array.getElem?_modify,Ne.symm hne]
theorem sortWorld_row (cur:Array Value) (e:TypeId) (fr:Nat×Nat) (hb:w.heap[blk]?=some (.cells cur e fr)) :
  (sortWorldK enc k w blk off m dk os).heap[blk]?=some (.cells (putCells id off (flatK enc k dk) cur) e fr):=by
 have hlt:blk<w.heap.size:=(Array.getElem?_eq_some_iff.1 hb).1
 unfold sortWorldK
 rw [heap_grow_old _ _ (by simpa [putRowK,putRow,mapBlock,ahead] using hlt)]
 simp [putRowK,putRow,mapBlock,Array.getElem?_modify,hb,onCells]
theorem sortWorld_grown:w.grownBy (sortWorldK enc k w blk off m dk os) (some blk) :=
 ⟨rfl,rfl,rfl,by simp [sortWorldK,putRowK,putRow,mapBlock],fun i hi hne=>sortWorld_block enc k w blk off m dk os i hi (fun e=>hne (by rw [e]))⟩
end
theorem extract_all {β:Type} (a:Array β) (n:Nat) (h:a.size=n):a.extract 0 n=a:=by subst h;simp
theorem finRange_get {β:Type} (l:List β):(List.finRange l.length).map (fun i=>l.get i)=l:=by
 apply List.ext_getElem
 ·simp
 ·intro i h1 h2;simp
theorem swo_pull {α β:Type} {c:α→α→Int} (h:SWO (ltOf c)) (f:β→α):SWO (ltOf fun i j=>c (f i) (f j)) where
 irrefl x:=h.irrefl (f x)
 trans x y z:=h.trans (f x) (f y) (f z)
 ntrans x y z:=h.ntrans (f x) (f y) (f z)
theorem sortFunc_gen {P:Program} {α:Type} (R:Rep α) (c:α→α→Int) (hc:SWO (ltOf c)) (g f lim:Nat)
  (hsort : ∀(β:Type) [Inhabited β] (enc:β→List Value) (_ : ∀x,(enc x).length=R.size) (_ : ∀x,∀v∈enc x,v.oneCell'=true) (cf:β→β→Int) (_:SWO (ltOf cf)) (blk off cap:Nat) (d:Array β) (w:World)
   (_:CmpLays P g #[] enc R.size cf blk off d.size w) (_:HoldsK enc R.size w blk off d) (_:blk<w.heap.size) (_:d.size<lim),
   Calls P f #[.slice (some ⟨blk,off,none⟩) d.size cap,.func (.func g) #[] #[]] w fun e w'=>e = .returned (.tuple #[])∧ ∃d' n os,PermIn 0 d.size d d'∧SortedIn (ltOf cf) 0 d.size d'∧w'=sortWorldK enc R.size w blk off n d' os)
  (hnone : ∀p cap w,Calls P f #[.slice p 0 cap,.func (.func g) #[] #[]] w fun e w'=>e = .returned (.tuple #[])∧w'=w)
  (hcmp : ∀(W:World) (x y:α) (cx cy:List Value),R.holds W.cell? cx x→R.holds W.cell? cy y→Calls P g #[.agg cx.toArray,.agg cy.toArray] W fun e w'=>e = .returned (.int .i64 (c x y))∧Gro W w')
  (w:World) (S:Nat→Prop) (base:Nat) (e:TypeId) (v:Value) (xs:List α) (hown:OwnOf R w S base e v xs) (hlen:xs.length<lim) :
  Calls P f #[v,.func (.func g) #[] #[]] w fun en w'=> ∃ys,en = .returned (.tuple #[])∧ys.Perm xs∧(ys.Pairwise fun a b=> ¬c b a<0)∧OwnOf R w' S base e v ys∧w.grownBy w' v.ownBlock:=by
 obtain⟨css,h1,h2⟩:=hown
 have hcl:=h1.length
 by_cases hn:0<xs.length
 ·obtain⟨h2l,h2⟩:=h2
  rcases h2 with ⟨_,h0⟩ | ⟨gB,cap,cur,rfl,hb,hh,hc1,hc2,hsz,htk⟩
  ·omega
  have hlt:gB<w.heap.size:=(Array.getElem?_eq_some_iff.1 hh).1
  haveI:Inhabited (Fin xs.length):=⟨⟨0,hn⟩⟩
  generalize hencd:(fun i:Fin xs.length=>css[i.1]'(by rw [hcl];exact i.2))=enc
  have henc : ∀i,enc i=css[i.1]'(by rw [hcl];exact i.2):=fun i=>by rw [←hencd]
  have hel : ∀i,(enc i).length=R.size:=fun i=>by rw [henc];exact repAll_len' h1 _ (List.getElem_mem _)
  have hen : ∀i,R.holds (on w (avoid S (.slice (some ⟨gB,0,none⟩) xs.length cap))) (enc i) (xs.get i):=fun i=>by
   obtain⟨d,g1,g2,_⟩:=h1.at i.1 i.2
   rw [henc]
   rw [List.getElem?_eq_getElem (by rw [hcl];exact i.2)]at g2
   injection g2 with g2
   rw [g2];exact g1
  generalize hd:(List.finRange xs.length).toArray=d
  have hds:d.size=xs.length:=by rw [←hd];simp
  have hdl:d.toList=List.finRange xs.length:=by rw [←hd]
  have hflat:(flatK enc R.size d).toList=css.flatten:=by
   rw [flatK_toList enc R.size hel,←hd]
   congr 1
   apply List.ext_getElem
   ·simp [hcl]
   ·intro i a1 a2
    simp [henc]
  have hH:HoldsK enc R.size w gB 0 d:=by
   intro j hj
   have hj':j<css.flatten.length:=by rw [←hflat];simpa using hj
   constructor
   ·have hu:css.flatten[j]?=some (id (flatK enc R.size d)[j]!):=by
     rw [←hflat,Array.getElem?_toList,Array.getElem?_eq_getElem hj,getElem!_pos (flatK enc R.size d) _ hj];rfl
    rw [Nat.zero_add,cell_of_row w gB j cur e (0,0) hh]
    rw [←htk,List.getElem?_take]at hu
    split at hu
    ·simpa using hu
    ·cases hu
   ·simp [World.frozen?,hh]
  have hsub : ∀(m:Nat) (dk:Array (Fin xs.length)) (os:Array Obj),Sub (on w (avoid S (.slice (some ⟨gB,0,none⟩) xs.length cap))) (on (sortWorldK enc R.size w gB 0 m dk os) (avoid S (.slice (some ⟨gB,0,none⟩) xs.length cap))) :=
   fun m dk os=>grown_sub (sortWorld_grown enc R.size w gB 0 m dk os) fun i hi=>hi.1
  have hcon:=hsort (Fin xs.length) enc hel (fun x u hu=>R.one (hen x) u hu) (fun i j=>c (xs.get i) (xs.get j)) (swo_pull hc fun i:Fin xs.length=>(xs.get i)) gB 0 cap d w
   (fun m os dk _ x y=>by
    refine(hcmp _ (xs.get x) (xs.get y) (enc x) (enc y) (R.ext (hen x) ((hsub m dk os).trans (on_sub _ _))) (R.ext (hen y) ((hsub m dk os).trans (on_sub _ _)))).mono ?_
    rintro en w' ⟨rfl,hg⟩
    exact⟨rfl,hg.grown⟩) hH hlt (by rw [hds];exact hlen)
  rw [hds]at hcon
  refine hcon.mono ?_
  rintro en w' ⟨rfl,d',n',os,⟨hp1,_,hp3⟩,hso,rfl⟩
  have hds':d'.size=xs.length:=by rw [hp1,hds]
  have hperm:d'.toList.Perm d.toList:=by
   rwa [extract_all d' _ hds',extract_all d _ hds]at hp3
  have hlen':(d'.toList.map (fun i:Fin xs.length=>(xs.get i))).length=xs.length:=by simp [hds']
  refine⟨d'.toList.map (fun i:Fin xs.length=>(xs.get i)),rfl,?_,?_,⟨d'.toList.map enc,?_,?_,.inr ⟨gB,cap,putCells id 0 (flatK enc R.size d') cur,?_,hb,sortWorld_row enc R.size w gB 0 n' d' os cur e (0,0) hh,?_,hc2,?_,?_⟩⟩,sortWorld_grown enc R.size w gB 0 n' d' os⟩
  ·have:=hperm.map fun i:Fin xs.length=>(xs.get i)
   rw [hdl]at this
   exact this.trans (by rw [finRange_get])
  ·rw [List.pairwise_iff_getElem]
   intro i j hi hj hij
   simp at hi hj
   have hs:=hso i j (Nat.zero_le _) hij (by omega)
   unfold ltOf at hs
   simp only [decide_eq_false_iff_not]at hs
   rw [getElem!_pos d' j hj,getElem!_pos d' i hi]at hs
   simpa only [List.getElem_map,Array.getElem_toList] using hs
  ·exact repAll_map R _ d'.toList enc _ fun i _=>R.ext (hen i) (hsub _ _ _)
  ·rw [hlen',←flatK_toList enc R.size hel];simp [hds']
  ·rw [hlen']
  ·rw [hlen'];exact hc1
  ·simp [putCells,hsz]
  ·rw [hlen',←flatK_toList enc R.size hel]
   apply List.ext_getElem?
   intro j
   rw [List.getElem?_take]
   by_cases hj:j<xs.length*R.size
   ·have hjc:j<cur.size:=by rw [hsz];exact Nat.lt_of_lt_of_le hj (Nat.mul_le_mul_right _ hc1)
    rw [if_pos hj]
    simp [putCells,hjc,hds',hj]
   ·rw [if_neg hj,List.getElem?_eq_none (by simpa [hds'] using Nat.le_of_not_lt hj)]
 ·have hxs:xs = []:=List.eq_nil_of_length_eq_zero (by omega)
  subst hxs
  have hform : ∃p cap,v = .slice p 0 cap:=by
   rcases h2.2 with ⟨rfl,_⟩ | ⟨gB,cap,cur,rfl,_⟩
   ·exact⟨_,_,rfl⟩
   ·exact⟨_,_,rfl⟩
  obtain⟨p,cap,rfl⟩:=hform
  refine(hnone p cap w).mono ?_
  rintro en w' ⟨rfl,rfl⟩
  exact⟨[],rfl,List.Perm.refl _,List.Pairwise.nil,⟨css,h1,h2⟩,⟨rfl,rfl,rfl,Nat.le_refl _,fun _ _ _=>rfl⟩⟩
theorem sortFunc_rep {P:Program} {ρ:Ren} {α:Type} (L:SlLaysF0.n6 P ρ) (R:Rep α) (k:Nat) (hk:R.size=k) (hk0:0<k)
  (aE : ∀w,(isAgg (ρ.t 24)).run P w = .ok true w) (zE : ∀w,(Go.sizeOf (ρ.t 24)).run P w = .ok k w) (c:α→α→Int) (hc:Ord3 c) (g:Nat)
  (eg : ∀args w,(callFunc g args).run P w = .ok (.enter g args) w)
  (hcmp : ∀(W:World) (x y:α) (cx cy:List Value),R.holds W.cell? cx x→R.holds W.cell? cy y→Calls P g #[.agg cx.toArray,.agg cy.toArray] W fun e w'=>e = .returned (.int .i64 (c x y))∧Gro W w')
  (w:World) (S:Nat→Prop) (base:Nat) (e:TypeId) (v:Value) (xs:List α) (hown:OwnOf R w S base e v xs) (hlen:xs.length<4611686018427387904) :
  Calls P (ρ.f 6) #[v,.func (.func g) #[] #[]] w fun en w'=>en = .returned (.tuple #[])∧OwnOf R w' S base e v (sortBy c xs)∧w.grownBy w' v.ownBlock:=by
 subst hk
 refine(sortFunc_gen (P:=P) R c hc.swo g (ρ.f 6) 4611686018427387904 (fun β _ enc hel h1 cf hO blk off cap d w hcmp hH hblk hsz=>AnyQ.slices_SortFunc L R.size aE zE enc hel h1 cf hO g #[] blk off cap d w eg hcmp hH hblk hsz)
  (fun p cap w=>AnyF.slices_SortFunc_none L p cap (.func (.func g) #[] #[]) w) hcmp w S base e v xs hown hlen).mono ?_
 rintro en w' ⟨ys,rfl,hp,hs,ho,hg⟩
 have hys:ys=sortBy c xs:=sortBy_unique hc hp (hs.imp fun {a b} h=>by
  have:=hc.anti a b
  omega)
 exact⟨rfl,hys▸ho,hg⟩
end Go.Proofs.YtombmdaohcjokaaGreatDoor
namespace Go.Proofs.YtombmdaohcjokaaGreatDoor
open Go.Sort
section
variable {α:Type} [Inhabited α]
def SwapOf (d d':Array α) (a b n:Nat):Prop :=
 d'.size=d.size∧ ∀k,d'[k]! = if a≤k∧k<a+n then d[k - a+b]! else if b≤k∧k<b+n then d[k - b+a]! else d[k]!
def RotOf (d d':Array α) (lo i j:Nat):Prop :=
 d'.size=d.size∧ ∀k,d'[k]! = if lo≤k∧k<lo+j then d[k+i]! else if lo+j≤k∧k<lo+i+j then d[k - j]! else d[k]!
variable {lt:α→α→Bool}
end
end Go.Proofs.YtombmdaohcjokaaGreatDoor
namespace Go.Proofs.YtombmdaohcjokaaGreatDoor
open Go.Sort
section
variable {α:Type} [Inhabited α] {lt:α→α→Bool}
def HeapTo (lt:α→α→Bool) (n:Nat) (d:Array α):Prop:= ∀k,0<k→k<n→lt d[k]! d[(k - 1) / 2]! = false
def UpInv (lt:α→α→Bool) (n:Nat) (d:Array α) (j:Nat):Prop :=
 (∀k,0<k→k<n→k≠j→lt d[k]! d[(k - 1) / 2]! = false)∧(0<j→ ∀k,0<k→k<n→(k - 1) / 2=j→lt d[k]! d[(j - 1) / 2]! = false)
def DownInv (lt:α→α→Bool) (n:Nat) (d:Array α) (i:Nat):Prop :=
 (∀k,0<k→k<n→(k - 1) / 2≠i→lt d[k]! d[(k - 1) / 2]! = false)∧(0<i→ ∀k,0<k→k<n→(k - 1) / 2=i→lt d[k]! d[(i - 1) / 2]! = false)
def Small (lt:α→α→Bool) (n:Nat) (d:Array α) (i j:Nat):Prop:=(j=2*i+1∨j=2*i+2)∧j<n∧ ∀k,k<n→(k=2*i+1∨k=2*i+2)→lt d[k]! d[j]! = false
end
end Go.Proofs.YtombmdaohcjokaaGreatDoor
namespace Go.Proofs.YtombmdaohcjokaaGreatDoor
open Go.RowKit Go.Shelf Go.Sort
def allPairs {α β:Type} (f:α→α→List β):List α→List β
 |[]=> []
 |x::l=>l.flatMap (f x)++allPairs f l
structure Ev where
 side:Bool
 idx:Nat
 from_:Int
 to_:Int
structure Pair where
 a:Nat
 b:Nat
 from_:Int
 to_:Int
def mkPair (o s:Ev):Pair:=⟨if o.side then s.idx else o.idx,if o.side then o.idx else s.idx,max o.from_ s.from_,min o.to_ s.to_⟩
def validB (a b:Int):Bool:=decide (0≤a)&&decide (a<b)&&decide (b≤1099511627776)
def okEv (e:Ev):Bool:=validB e.from_ e.to_
def meet (o s:Ev):List Pair:=if o.side≠s.side∧okEv o=true∧okEv s=true∧max o.from_ s.from_<min o.to_ s.to_ then [mkPair o s]else []
def evs (c:Bool):Nat→List Tup→List Ev
 |_,[]=> []
 |i,t::l=>⟨c,i,t.from_,t.to_⟩::evs c (i+1) l
def starts (c:Bool) (l:List Tup):List Ev:=(evs c 0 l).filter okEv
def rawPairs (a b:List Tup):List Pair:=(evs false 0 a).flatMap fun x=>(evs true 0 b).flatMap (meet x)
def cmpPair (x y:Pair):Int:=if cmpI x.from_ y.from_=0 then(if cmpI x.a y.a=0 then cmpI x.b y.b else cmpI x.a y.a)else cmpI x.from_ y.from_
def cmpPair4 (x y:Pair):Int:=if cmpI x.from_ y.from_=0 then(if cmpI x.a y.a=0 then(if cmpI x.b y.b=0 then cmpI x.to_ y.to_ else cmpI x.b y.b)else cmpI x.a y.a)else cmpI x.from_ y.from_
def Keyed (l:List Pair):Prop:= ∀x∈l,∀y∈l,x.a=y.a→x.b=y.b→x=y
def pairsOf (a b:List Tup):List Pair:=sortBy cmpPair4 (rawPairs a b)
def Queued (q P:List Ev) (c:Bool):Prop:= ∀x,(∀e∈P,e.from_≤x)→(q.filter fun e=>decide (x<e.to_)).Perm (P.filter fun e=>(e.side==c)&&decide (x<e.to_))
end Go.Proofs.YtombmdaohcjokaaGreatDoor
namespace Go.Proofs.YtombmdaohcjokaaGreatDoor
open Go.RowKit
def swP (p:Pair):Pair:=⟨p.b,p.a,p.from_,p.to_⟩
def isSw (s t:Pair):Bool:=decide (t.a=s.b)&&decide (t.b=s.a)&&decide (t.from_=s.from_∧t.to_=s.to_)
end Go.Proofs.YtombmdaohcjokaaGreatDoor
namespace Go.Proofs.YtombmdaohcjokaaGreatDoor
open Go.RowKit
structure DoneAt (a b:List Tup) (i k:Nat) (out:List Pair):Prop where
 nd:out.Nodup
 mem : ∀p,p∈out↔p∈rawPairs a b∧(p.a<i∨p.a=i∧p.b<k)
 srt:out.Pairwise fun x y=> ¬cmpPair y x<0
end Go.Proofs.YtombmdaohcjokaaGreatDoor
namespace Go.Proofs.YtombmdaohcjokaaGreatDoor
open Go.RowKit
theorem info_val:(Tryz.prog.info? 61).map (fun i=>(i.zero,i.size,i.bytes))=some (some (.agg #[.int .i64 0,.int .i64 0,.string ByteArray.empty]),Rep.val.size,32):=by kernel_rfl
set_option maxHeartbeats 1000000 in
theorem clone_val (v:Value) (l:List _) (w:World) (hv:SliceOf Rep.val w.cell? v l) (hbig:l.length*32≤140737488355328) :
  Calls Tryz.prog 155 #[v] w fun e w'=> ∃v',e = .returned v'∧SliceOf Rep.val (on w' (fun k=>w.heap.size≤k)) v' l∧Ext w w':=by
 have q22 : ∀(w:World) (a:Option Addr) (n c n' c':Nat),(binOp .eql 56 (.slice a n c) (.slice none n' c')).run Tryz.prog w = .ok (.bool a.isNone) w:=fun w a n c n' c'=>Lib.run_eql_slice_nil w _ _ a n c n' c' Tryz.underlying56
 obtain⟨i0,hi,hz0,hz1,hz2⟩:=info_parts info_val
 obtain⟨a,cap,rfl,hc1,hc2,_⟩:=hv.form
 cases a with
 |none =>
  have hl:l.length=0:=by
   obtain⟨css,h1,h2⟩:=hv
   rcases h2 with ⟨_,h0,_⟩ | ⟨ad,c,he,_⟩
   ·exact h0
   ·cases he
  have hln:l = []:=List.eq_nil_of_length_eq_zero hl
  subst hln
  go_enter Tryz.func155,Tryz.ntmps155
  go_wp2
  go_ret
  exact⟨_,rfl,SliceOf.nil _ _,Ext.refl w⟩
 |some ad =>
  have hw:SliceOf Rep.val (on (w.alloc (.cells #[] 61)) (avoid (fun _=>True) (.slice (some ⟨w.heap.size,0,none⟩) 0 0))) (.slice (some ad) l.length cap) l:=by
   by_cases hn:0<l.length
   ·have hx:=(Ext.refl w).alloc (.cells #[] 61)
    obtain⟨css,h1,h2⟩:=hv
    exact⟨css,h1.flatView flat_val,h2.sub fun p u hp=>on_some.2 ⟨⟨by have:=World.block_lt_of_cell? w p hp;simp [Value.ownBlock];omega,trivial⟩,hx.at hp⟩⟩
   ·obtain⟨css,h1,h2⟩:=hv
    have hln:l = []:=List.eq_nil_of_length_eq_zero (by omega)
    subst hln
    rcases h2 with ⟨he,_⟩ | ⟨ad',c',he,g1,g2,_⟩
    ·cases he
    ·injection he with e1 e2 e3
     injection e1 with e1
     subst e1 e3
     exact⟨[],trivial,.inr ⟨ad,cap,rfl,by simp,g2,.inl rfl⟩⟩
  have HW:=Lib.hid hw
  clear hv hw
  go_enter Tryz.func155,Tryz.ntmps155
  go_wp2_with (at_builtin;refine wpList_append_all Rep.val (fun _=>True) rfl _ _ 56 rfl w.heap.size 61 i0 _ 32 Tryz.underlying56 hi hz0 hz1 hz2 rfl (by decide) _ [] rfl (OwnOf.made _ w _ _) _ l rfl HW.out ?c1 ?c2 ?c3 ?_)
  case c1=>simp;omega
  case c2=>simpa using hbig
  case c3=>simp
  intro v' w1 hown hgr _
  go_wp2_with fail
  go_ret
  exact⟨v',rfl,OwnOf.fresh flat_val (by simpa using hown),Below.grown (Below.alloc (Below.refl w.heap.size w) (Nat.le_refl _) _) hgr (by simp) (fun k hk=>by simp [Value.ownBlock]at hk;omega)⟩
theorem info_ints:(Tryz.prog.info? 3).map (fun i=>(i.zero,i.size,i.bytes))=some (some (.int .i64 0),Rep.int.size,8):=by kernel_rfl
set_option maxHeartbeats 1000000 in
theorem clone_ints (v:Value) (l:List _) (w:World) (hv:SliceOf Rep.int w.cell? v l) (hbig:l.length*8≤140737488355328) :
  Calls Tryz.prog 51 #[v] w fun e w'=> ∃v',e = .returned v'∧SliceOf Rep.int (on w' (fun k=>w.heap.size≤k)) v' l∧Ext w w':=by
 have q22 : ∀(w:World) (a:Option Addr) (n c n' c':Nat),(binOp .eql 29 (.slice a n c) (.slice none n' c')).run Tryz.prog w = .ok (.bool a.isNone) w:=fun w a n c n' c'=>Lib.run_eql_slice_nil w _ _ a n c n' c' Tryz.underlying29
 obtain⟨i0,hi,hz0,hz1,hz2⟩:=info_parts info_ints
 obtain⟨a,cap,rfl,hc1,hc2,_⟩:=hv.form
 cases a with
 |none =>
  have hl:l.length=0:=by
   obtain⟨css,h1,h2⟩:=hv
   rcases h2 with ⟨_,h0,_⟩ | ⟨ad,c,he,_⟩
   ·exact h0
   ·cases he
  have hln:l = []:=List.eq_nil_of_length_eq_zero hl
  subst hln
  go_enter Tryz.func51,Tryz.ntmps51
  go_wp2
  go_ret
  exact⟨_,rfl,SliceOf.nil _ _,Ext.refl w⟩
 |some ad =>
  have hw:SliceOf Rep.int (on (w.alloc (.cells #[] 3)) (avoid (fun _=>True) (.slice (some ⟨w.heap.size,0,none⟩) 0 0))) (.slice (some ad) l.length cap) l:=by
   by_cases hn:0<l.length
   ·have hx:=(Ext.refl w).alloc (.cells #[] 3)
    obtain⟨css,h1,h2⟩:=hv
    exact⟨css,h1.flatView flat_int,h2.sub fun p u hp=>on_some.2 ⟨⟨by have:=World.block_lt_of_cell? w p hp;simp [Value.ownBlock];omega,trivial⟩,hx.at hp⟩⟩
   ·obtain⟨css,h1,h2⟩:=hv
    have hln:l = []:=List.eq_nil_of_length_eq_zero (by omega)
    subst hln
    rcases h2 with ⟨he,_⟩ | ⟨ad',c',he,g1,g2,_⟩
    ·cases he
    ·injection he with e1 e2 e3
     injection e1 with e1
     subst e1 e3
     exact⟨[],trivial,.inr ⟨ad,cap,rfl,by simp,g2,.inl rfl⟩⟩
  have HW:=Lib.hid hw
  clear hv hw
  go_enter Tryz.func51,Tryz.ntmps51
  go_wp2_with (at_builtin;refine wpList_append_all Rep.int (fun _=>True) rfl _ _ 29 rfl w.heap.size 3 i0 _ 8 Tryz.underlying29 hi hz0 hz1 hz2 rfl (by decide) _ [] rfl (OwnOf.made _ w _ _) _ l rfl HW.out ?c1 ?c2 ?c3 ?_)
  case c1=>simp;omega
  case c2=>simpa using hbig
  case c3=>simp
  intro v' w1 hown hgr _
  go_wp2_with fail
  go_ret
  exact⟨v',rfl,OwnOf.fresh flat_int (by simpa using hown),Below.grown (Below.alloc (Below.refl w.heap.size w) (Nat.le_refl _) _) hgr (by simp) (fun k hk=>by simp [Value.ownBlock]at hk;omega)⟩
set_option maxHeartbeats 1000000 in
theorem clone_row (va ua:Value) (r:Row) (w:World) (hv:SliceOf Rep.val w.cell? va r.vals) (hu:SliceOf Rep.int w.cell? ua r.lin) (hb1:r.vals.length*32≤140737488355328) (hb2:r.lin.length*8≤140737488355328) :
  Calls Tryz.prog 101 #[.agg #[va,ua]] w fun e w'=> ∃a b,e = .returned (.agg #[a,b])∧SliceOf Rep.val (on w' (fun k=>w.heap.size≤k)) a r.vals∧SliceOf Rep.int (on w' (fun k=>w.heap.size≤k)) b r.lin∧Ext w w':=by
 have HV:=Lib.hid hv
 have HU:=Lib.hid hu
 obtain⟨pa,ca,rfl,_⟩:=hv.form
 obtain⟨qa,da,rfl,_⟩:=hu.form
 generalize r.vals=vs at *
 generalize r.lin=ls at *
 clear hv hu
 go_enter Tryz.func101,Tryz.ntmps101
 go_wp2_with fail
 have c1:((w.alloc (.cells #[.slice pa vs.length ca,.slice qa ls.length da] 58)).alloc (.cells #[.slice none 0 0,.slice none 0 0] 58)).cell? ⟨w.heap.size,0,none⟩=some (.slice pa vs.length ca):=by go_simp
 have c2:((w.alloc (.cells #[.slice pa vs.length ca,.slice qa ls.length da] 58)).alloc (.cells #[.slice none 0 0,.slice none 0 0] 58)).cell? ⟨w.heap.size,1,none⟩=some (.slice qa ls.length da):=by go_simp
 have c3:((w.alloc (.cells #[.slice pa vs.length ca,.slice qa ls.length da] 58)).alloc (.cells #[.slice none 0 0,.slice none 0 0] 58)).cell? ⟨w.heap.size+1,0,none⟩=some (.slice none 0 0):=by go_simp
 have c4:((w.alloc (.cells #[.slice pa vs.length ca,.slice qa ls.length da] 58)).alloc (.cells #[.slice none 0 0,.slice none 0 0] 58)).cell? ⟨w.heap.size+1,1,none⟩=some (.slice none 0 0):=by go_simp
 have f1:((w.alloc (.cells #[.slice pa vs.length ca,.slice qa ls.length da] 58)).alloc (.cells #[.slice none 0 0,.slice none 0 0] 58)).frozen? ⟨w.heap.size+1,0,none⟩=false:=by go_simp
 have f2:((w.alloc (.cells #[.slice pa vs.length ca,.slice qa ls.length da] 58)).alloc (.cells #[.slice none 0 0,.slice none 0 0] 58)).frozen? ⟨w.heap.size+1,1,none⟩=false:=by go_simp
 have hxx:=((Ext.refl w).alloc (.cells #[.slice pa vs.length ca,.slice qa ls.length da] 58)).alloc (.cells #[.slice none 0 0,.slice none 0 0] 58)
 generalize ((w.alloc (.cells #[.slice pa vs.length ca,.slice qa ls.length da] 58)).alloc (.cells #[.slice none 0 0,.slice none 0 0] 58))=w1 at c1 c2 c3 c4 f1 f2 hxx ⊢
 go_region_with (first | (go_at_call 155;refine(clone_val _ vs _ (by exact HV.out.ext hxx.drew.full) hb1).mono ?_;rintro e w2 ⟨v2,rfl,hs2,hx2⟩;obtain⟨a2,k2,rfl,_⟩:=hs2.form;have d1:=hx2.at (p:=⟨w.heap.size,0,none⟩) c1;have d2:=hx2.at (p:=⟨w.heap.size,1,none⟩) c2;have d3:=hx2.at (p:=⟨w.heap.size+1,0,none⟩) c3;have d4:=hx2.at (p:=⟨w.heap.size+1,1,none⟩) c4;have g1:=hx2.unfrozen (p:=⟨w.heap.size+1,0,none⟩) c3 f1;have g2:=hx2.unfrozen (p:=⟨w.heap.size+1,1,none⟩) c4 f2) | (go_at_call 51;refine(clone_ints _ ls _ (by exact HU.out.ext (hxx.drew.trans hx2).full) hb2).mono ?_;rintro e w3 ⟨v3,rfl,hs3,hx3⟩;obtain⟨a3,k3,rfl,_⟩:=hs3.form;have j3:=hx3.at d3;have j4:=hx3.at d4;have l1:=hx3.unfrozen d3 g1;have l2:=hx3.unfrozen d4 g2))
 all_goals
  have z1:=cell_lt c4
  have z2:=cell_lt d4
  have z3:=cell_lt j4
  clear c1 c2 c3 c4 f1 f2 d1 d2 d3 d4 g1 g2
  go_wp2_with fail
  refine bodyPost_ret (v:= .agg #[.slice a2 vs.length k2,.slice a3 ls.length k3]) (by simp [results,Tryz.results101,go_sem,j3,j4]) rfl ⟨_,_,rfl,?_,?_,?_⟩
  ·refine hs2.ext ((on_mono w2 (T:=fun k=>w.heap.size+1<k) (fun k _ hk=> ?_)).trans ((hx3.sub _).trans ((set_sub _ _ _ ?_).trans ((set_sub _ _ _ ?_).trans (on_mono _ fun k _ hk=> ?_)))))
   ·exact Nat.lt_of_lt_of_le z1 hk
   ·simp
   ·simp
   ·exact Nat.le_trans (Nat.le_succ _) (Nat.le_of_lt hk)
  ·refine hs3.ext ((on_mono w3 (T:=fun k=>w.heap.size+1<k) (fun k _ hk=> ?_)).trans ((set_sub _ _ _ ?_).trans ((set_sub _ _ _ ?_).trans (on_mono _ fun k _ hk=> ?_))))
   ·exact Nat.lt_of_lt_of_le z2 hk
   ·simp
   ·simp
   ·exact Nat.le_trans (Nat.le_succ _) (Nat.le_of_lt hk)
  ·exact Below.setCell (Below.setCell ((hxx.drew.trans hx2).trans hx3) (by simp) _) (by simp) _
end Go.Proofs.YtombmdaohcjokaaGreatDoor
namespace Go.Proofs.YtombmdaohcjokaaGreatDoor
open Go.RowKit
theorem infoRow:(Tryz.prog.info? 58).map (fun i=>(i.zero,i.size,i.bytes))=some (some (.agg #[.slice none 0 0,.slice none 0 0]),Rep.row.size,48):=by kernel_rfl
def fitR (r:Row):Prop:=r.vals.length≤1048576∧r.lin.length≤1048576
def fitRows (l:List Row):Prop:=l.length≤1048576∧ ∀r∈l,fitR r
abbrev since (w:World) (k:Nat):Prop:=w.heap.size≤k
theorem isAggRow (w:World):(isAgg 58).run Tryz.prog w = .ok true w:=by kernel_rfl
theorem sizeOfRow (w:World):(Go.sizeOf 58).run Tryz.prog w = .ok 2 w:=by kernel_rfl
theorem entersCmpRow : ∀args w,(callFunc 103 args).run Tryz.prog w = .ok (.enter 103 args) w:=enters_of Tryz.func103 (by kernel_rfl) rfl
theorem sort_rows_call (w:World) (S:Nat→Prop) (base:Nat) (e:TypeId) (v:Value) (xs:List Row) (hown:OwnOf Rep.row w S base e v xs) (hlen:xs.length<4611686018427387904) :
  Calls Tryz.prog 102 #[v,.func (.func 103) #[] #[]] w fun en w'=>en = .returned (.tuple #[])∧OwnOf Rep.row w' S base e v (sortBy cmpRow xs)∧w.grownBy w' v.ownBlock:=by
 have h:=sortFunc_rep Tryz.sortRows Rep.row 2 rfl (by decide) isAggRow sizeOfRow cmpRow ord_row 103 entersCmpRow (fun W x y cx cy hx hy=>by
  obtain⟨a,b,rfl,h1,h2⟩:=hx
  obtain⟨a',b',rfl,h1',h2'⟩:=hy
  exact compareRow_any _ _ _ _ _ _ W h1 h1' h2 h2') w S base e v xs hown hlen
 exact h
set_option maxHeartbeats 2000000 in
theorem sort_rows (v:Value) (l:List Row) (w:World) (hv:SliceOf Rep.row w.cell? v l) (hf:fitRows l) :
  Calls Tryz.prog 54 #[v] w fun e w'=> ∃v',e = .returned v'∧SliceOf Rep.row (on w' (since w)) v' (sortBy cmpRow l)∧Ext w w':=by
 obtain⟨i0,hi,hz0,hz1,hz2⟩:=info_parts infoRow
 obtain⟨pa,ca,rfl,ha1,ha2,ha3⟩:=hv.form
 unfold maxLen at ha2
 obtain⟨hf1,hf2⟩:=hf
 have HF:=Lib.hid hf2
 clear hf2
 go_enter Tryz.func54,Tryz.ntmps54
 go_wp2_with fail
 go_loopg [3,8] l.length (fun gk v i wr=> ∃k:Nat,k≤l.length∧gk=l.length - k∧i = .int .i64 k∧OwnOf Rep.row wr (since w) w.heap.size 58 v (l.take k)∧Ext w wr)
 case atStart=>exact⟨0,by omega,rfl,rfl,OwnOf.nil _ _ _ _ _,Ext.refl w⟩
 case round =>
  obtain⟨k,hk,rfl,rfl,hown,hx⟩:=hrel
  by_cases hlt:k<l.length
  ·obtain⟨ba,oa,rfl⟩:=ha3 (by decide) (by omega)
   obtain⟨u1,u2,c1,c2,s1,s2⟩:=row_at hv k hlt
   have hfr:=HF.out l[k] (List.getElem_mem _)
   have htk:=List.take_succ_eq_append_getElem hlt
   have hlen:(l.take k).length=k:=by simp;omega
   replace c1:=hx.at c1
   replace c2:=hx.at c2
   replace s1:=s1.ext hx.full
   replace s2:=s2.ext hx.full
   generalize l[k]=r at s1 s2 hfr htk
   have HT:=Lib.hid htk
   obtain⟨pu1,cu1,rfl,_⟩:=s1.form
   obtain⟨pu2,cu2,rfl,_⟩:=s2.form
   have S1:=Lib.hid s1
   have S2:=Lib.hid s2
   have HO:=Lib.hid hown
   have hd:decide ((k:Int)<(l.length:Int))=true:=by simp;omega
   have e1:=cell_lt c1
   clear s1 s2 htk hown hv ha3
   go_wp2_with fail
   refine(clone_row _ _ r _ (S1.out.ext ((Ext.refl _).alloc _).full) (S2.out.ext ((Ext.refl _).alloc _).full) (by have:=hfr.1;omega) (by have:=hfr.2;omega)).mono ?_
   rintro e w2 ⟨a,b,rfl,t1,t2,hx2⟩
   obtain⟨a2,k2,rfl,_⟩:=t1.form
   obtain⟨b2,j2,rfl,_⟩:=t2.form
   have T1:=Lib.hid t1
   have T2:=Lib.hid t2
   have hz:=hx2.size
   simp at hz
   have hw:=hx.size
   clear t1 t2 c1 c2 e1
   go_wp2_with (at_builtin;refine wpList_append_one Rep.row (since w) rfl _ _ 40 rfl w.heap.size 58 i0 _ 48 Tryz.underlying40 hi hz0 hz1 hz2 rfl (by decide) _ (l.take k) rfl (HO.out.ext (((Ext.refl _).alloc _).trans hx2 |>.alloc _)) ⟨w2.heap.size,0,none⟩ 1 r [.slice a2 r.vals.length k2,.slice b2 r.lin.length j2] rfl ?c1 ?c2 ?c3 ?c4 ?c5 ?_)
   case c1 =>
    have hlt2:=HO.out.lt
    have hs:Sub (on w2 (since (wr.alloc (.cells #[.slice pu1 r.vals.length cu1,.slice pu2 r.lin.length cu2] 58)))) (on (w2.alloc (.cells #[.slice a2 r.vals.length k2,.slice b2 r.lin.length j2] 58)) (avoid (since w) u3)):=by
     refine(((Ext.refl w2).alloc _).sub _).trans (on_mono _ fun j _ hj=>⟨fun he=> ?_,?_⟩)
     ·have:=hlt2 j he.symm
      simp [since]at hj
      omega
     ·simp [since]at hj ⊢
      omega
    exact⟨_,_,rfl,T1.out.ext hs,T2.out.ext hs⟩
   case c2=>exact cells_new w2 [.slice a2 r.vals.length k2,.slice b2 r.lin.length j2] _
   case c3=>rw [hlen];unfold maxLen;omega
   case c4=>rw [hlen];omega
   case c5=>simp;omega
   intro g cap w3 hown3 hgr _
   clear hz
   go_wp2_with fail
   go_roundg (l.length - (k+1))
   case measure=>omega
   case rel =>
    refine⟨k+1,by omega,rfl,by go_num,by rw [HT.out];exact hown3,?_⟩
    exact Below.grown (((hx.alloc _).trans hx2).alloc _) hgr (by simp;have:=hx2.size;simp at this;omega) (fun j hj=>(HO.out.lt j hj).1)
  ·have:k=l.length:=by omega
   subst this
   rw [List.take_of_length_le (Nat.le_refl _)]at hown
   have HO:=Lib.hid hown
   clear hown hv ha3
   go_wp2_with fail
   refine(sort_rows_call _ _ _ _ _ _ HO.out (by omega)).mono ?_
   rintro e w4 ⟨rfl,hown4,hgr4⟩
   go_wp2_with fail
   go_ret
   exact⟨_,rfl,hown4.sliceIn (fun _ _ h=>h) (fun _ h=>h),Below.grown hx hgr4 hx.size (fun j hj=>(HO.out.lt j hj).1)⟩
end Go.Proofs.YtombmdaohcjokaaGreatDoor
namespace Go.Proofs.YtombmdaohcjokaaGreatDoor
open Go.RowKit
noncomputable def eqB {α:Type} (x y:α):Bool:= @decide (x=y) (Classical.propDecidable _)
theorem eqB_iff {α:Type} {x y:α}:eqB x y=true↔x=y:=by simp [eqB]
theorem eqB_drop {α:Type} (l l':List α) (k:Nat) (h:k<l.length) (h':k<l'.length):eqB (l.drop k) (l'.drop k)=(eqB l[k] l'[k]&&eqB (l.drop (k+1)) (l'.drop (k+1))):=by
 rw [List.drop_eq_getElem_cons h,List.drop_eq_getElem_cons h',Bool.eq_iff_iff,Bool.and_eq_true,eqB_iff,eqB_iff,eqB_iff]
 exact Iff.of_eq (List.cons.injEq _ _ _ _)
theorem eqB_end {α:Type} (l l':List α) (h:l.length=l'.length):eqB (l.drop l.length) (l'.drop l.length)=true:=by
 rw [eqB_iff,List.drop_length,List.drop_eq_nil_of_le (by omega)]
theorem eqB_len {α:Type} (l l':List α) (h:l.length≠l'.length):eqB l l'=false:=by
 rw [Bool.eq_false_iff,Ne,eqB_iff]
 intro e
 rw [e]at h
 exact h rfl
theorem cmpRow_zero (a b:Row):(cmpRow a b==0)=eqB a b:=by
 rw [Bool.eq_iff_iff,eqB_iff,beq_iff_eq,ord_row.eq]
def mult (vs:List Val) (l:List Row):Nat:=l.countP fun r=>cmpVals r.vals vs==0
theorem mult_take (vs:List Val) (l:List Row) (k:Nat) (h:k<l.length):mult vs (l.take (k+1))=mult vs (l.take k)+if cmpVals l[k].vals vs=0 then 1 else 0:=by
 unfold mult
 rw [List.take_succ_eq_append_getElem h,List.countP_append,List.countP_cons,List.countP_nil]
 simp
set_option maxHeartbeats 2000000 in
theorem multiplicity_rows (va vb:Value) (l:List Row) (vs:List Val) (w:World) (ha:SliceOf Rep.row w.cell? va l) (hb:SliceOf Rep.val w.cell? vb vs) :
  Calls Tryz.prog 31 #[va,vb] w fun e w'=>e = .returned (.int .i64 (mult vs l))∧Ext w w':=by
 have HB:=Lib.hid hb
 obtain⟨pa,ca,rfl,ha1,ha2,ha3⟩:=ha.form
 obtain⟨pb,cb,rfl,_⟩:=hb.form
 unfold maxLen at ha2
 clear hb
 go_enter Tryz.func31,Tryz.ntmps31
 go_wp2_with fail
 go_loopg [5,10] l.length (fun gk n i wr=> ∃k m:Nat,k≤l.length∧gk=l.length - k∧i = .int .i64 k∧n = .int .i64 m∧(m≤k∧mult vs (l.take k)=m)∧Ext w wr)
 case atStart=>exact⟨0,0,by omega,rfl,rfl,rfl,⟨by omega,rfl⟩,Ext.refl w⟩
 case round =>
  obtain⟨k,m,hk,rfl,rfl,rfl,⟨hmk,hm⟩,hx⟩:=hrel
  have HM:=Lib.hid hm
  clear hm
  by_cases hlt:k<l.length
  ·obtain⟨ba,oa,rfl⟩:=ha3 (by decide) (by omega)
   obtain⟨u1,u2,c1,c2,s1,s2⟩:=row_at ha k hlt
   have hdr:=mult_take vs l k hlt
   generalize l[k]=x at s1 s2 hdr
   replace c1:=hx.at c1
   replace c2:=hx.at c2
   replace s1:=s1.ext hx.full
   have HD:=Lib.hid hdr
   have S1:=Lib.hid s1
   obtain⟨p1,q1,rfl,_⟩:=s1.form
   obtain⟨p2,q2,rfl,_⟩:=s2.form
   have hd:decide ((k:Int)<(l.length:Int))=true:=by simp;omega
   have e1:=cell_lt c1
   clear s1 s2 hdr ha ha3
   go_wp2_with fail
   have hx0:=(Ext.refl wr).alloc (.cells #[.slice p1 x.vals.length q1,.slice p2 x.lin.length q2] 58)
   refine(compareRows_any _ _ x.vals vs _ (S1.out.ext hx0.full) ((HB.out.ext hx.full).ext hx0.full)).mono ?_
   rintro e w1 ⟨rfl,hx1⟩
   replace hx:=(hx.trans hx0).trans hx1.ext
   clear hx1 hx0 c1 c2 e1
   generalize hq:cmpVals x.vals vs=q
   have HQ:=Lib.hid hq
   clear hq
   by_cases hq0:q=0
   ·subst hq0
    go_wp2_with fail
    go_roundg (l.length - (k+1))
    case measure=>omega
    case rel=>exact⟨k+1,m+1,by omega,rfl,by go_num,by go_num,⟨by omega,by rw [HD.out,HQ.out,HM.out,if_pos rfl]⟩,hx⟩
   ·have hqb:(q==0)=false:=by simp [hq0]
    have HQ0:=Lib.hid hq0
    clear hq0
    go_wp2_with fail
    go_roundg (l.length - (k+1))
    case measure=>omega
    case rel=>exact⟨k+1,m,by omega,rfl,by go_num,rfl,⟨by omega,by rw [HD.out,HQ.out,HM.out,if_neg HQ0.out,Nat.add_zero]⟩,hx⟩
  ·have:k=l.length:=by omega
   subst this
   go_wp2_with fail
   go_ret
   exact⟨ret_int (by rw [←HM.out,List.take_length]),hx⟩
end Go.Proofs.YtombmdaohcjokaaGreatDoor
namespace Go.Proofs.YtombmdaohcjokaaGreatDoor
open Go.RowKit
theorem bytesLess_cmp (x y:List UInt8):Op.bytesLess x y=decide (Lib.compareBytes x y = -1):=by
 induction x generalizing y with
 |nil=>cases y <;> simp [Op.bytesLess,Lib.compareBytes]
 |cons a x ih =>
  cases y with
  |nil=>simp [Op.bytesLess,Lib.compareBytes]
  |cons b y =>
   simp only [Op.bytesLess,Lib.compareBytes]
   by_cases h1:a<b
   ·simp [h1]
   ·by_cases h2:b<a
    ·have:a≠b:=fun e=>by subst e;exact h1 h2
     simp [h1,h2,this]
    ·have:a=b:=UInt8.le_antisymm (UInt8.not_lt.1 h2) (UInt8.not_lt.1 h1)
     subst this
     simp [h1,ih]
theorem cmpS_if (sa sb:ByteArray):cmpS sa sb=if Op.bytesLess sa.toList sb.toList=true then -1 else if sa.toList=sb.toList then 0 else 1:=by
 have hr:=ord_bytes.rng sa.data.toList sb.data.toList
 have he:=ord_bytes.eq sa.data.toList sb.data.toList
 unfold cmpS
 rw [bytesLess_cmp,Lib.toList_data,Lib.toList_data]
 generalize Lib.compareBytes sa.data.toList sb.data.toList=s at *
 simp only [decide_eq_true_eq]
 split
 ·assumption
 ·split
  ·exact he.2 (by assumption)
  ·have:s≠0:=fun e=>by have:=he.1 e;contradiction
   omega
set_option maxHeartbeats 2000000 in
theorem ref_compare (a b:Val) (w:World):Calls Tryz.prog 75 #[valV a,valV b] w fun e w'=>e = .returned (.int .i64 (cmpVal a b))∧Gro w w':=by
 obtain⟨ak,an,sa⟩:=a
 obtain⟨bk,bn,sb⟩:=b
 unfold cmpVal
 dsimp only
 go_enter Tryz.func75,Tryz.ntmps75
 go_wp2_with fail
 all_goals go_ret
 all_goals refine⟨ret_int ?_,((Gro.refl w).alloc _).alloc _⟩
 all_goals simp only [orI,cmpI,cmpS_if]
 all_goals ((repeat' split) <;> first | rfl | omega | contradiction | simp_all)
theorem lexI_done {α:Type} (c:α→α→Int) (l l':List α) (k:Nat) (hk:k≤l.length) (hk':k≤l'.length) (h : ¬(k<l.length∧k<l'.length)) :
  lexI c (l.drop k) (l'.drop k)=if l.length<l'.length then -1 else if l'.length<l.length then 1 else 0:=by
 by_cases h1:k<l.length
 ·have:k=l'.length:=by omega
  subst this
  rw [List.drop_eq_nil_of_le (Nat.le_refl l'.length),List.drop_eq_getElem_cons h1,if_neg (by omega),if_pos (by omega)]
  rfl
 ·have:k=l.length:=by omega
  subst this
  rw [lexI_end]
  by_cases h2:l.length<l'.length
  ·rw [if_pos h2,if_pos h2]
  ·rw [if_neg h2,if_neg h2,if_neg (by omega)]
set_option maxHeartbeats 2000000 in
theorem ref_compareInts (va vb:Value) (l l':List Int) (w:World) (ha:SliceOf Rep.int w.cell? va l) (hb:SliceOf Rep.int w.cell? vb l') :
  Calls Tryz.prog 113 #[va,vb] w
   fun e w'=>e = .returned (.int .i64 (cmpInts l l'))∧Gro w w':=by
 obtain⟨pa,ca,rfl,ha1,ha2,ha3⟩:=ha.form
 obtain⟨pb,cb,rfl,hb1,hb2,hb3⟩:=hb.form
 unfold maxLen at ha2 hb2
 go_enter Tryz.func113,Tryz.ntmps113
 go_wp2_with fail
 go_loopg [5] l.length (fun gk i wr=> ∃k:Nat,k≤l.length∧gk=l.length - k∧i = .int .i64 k∧(k≤l'.length∧cmpInts l l'=lexI cmpI (l.drop k) (l'.drop k))∧Gro w wr)
 case atStart=>exact⟨0,by omega,rfl,rfl,⟨by omega,rfl⟩,Gro.refl w⟩
 case round =>
  obtain⟨k,hk,rfl,rfl,⟨hk2,hc⟩,hx⟩:=hrel
  have HC:=Lib.hid hc
  clear hc
  by_cases hlt:k<l.length∧k<l'.length
  ·obtain⟨hlt,hlt2⟩:=hlt
   obtain⟨ba,oa,rfl⟩:=ha3 (by decide) (by omega)
   obtain⟨c1,_⟩:=int_at ha k hlt
   replace c1:=hx.at c1
   have hd:decide ((k:Int)<(l.length:Int))=true:=by simp;omega
   have hd1:(k:Int)<(l.length:Int):=by omega
   obtain⟨bb,ob,rfl⟩:=hb3 (by decide) (by omega)
   obtain⟨d1,_⟩:=int_at hb k hlt2
   replace d1:=hx.at d1
   have hdr:=lexI_drop cmpI l l' k hlt hlt2
   have hdb:decide ((k:Int)<(l'.length:Int))=true:=by simp;omega
   have hd2:(k:Int)<(l'.length:Int):=by omega
   generalize l[k]=x at c1 hdr
   generalize l'[k]=y at d1 hdr
   have HD:=Lib.hid hdr
   clear hdr ha hb ha3 hb3
   rcases Int.lt_trichotomy x y with h | h | h
   ·have hb1:decide (x<y)=true:=by simp [h]
    have HQ:=Lib.hid h
    clear h
    go_wp2_with fail
    go_quiet (fail)
    go_wp2_with fail
    go_ret
    exact⟨ret_int (by rw [HC.out,HD.out];have:=HQ.out;simp [cmpI,this]),hx.drewN _⟩
   ·have hb1:decide (x<y)=false:=by simp;omega
    have hb2:decide (y<x)=false:=by simp;omega
    have hb3:decide (x>y)=false:=by simp;omega
    have HQ:=Lib.hid h
    clear h
    go_wp2_with fail
    go_quiet (fail)
    go_wp2_with fail
    go_quiet (fail)
    go_wp2_with fail
    go_roundg (l.length - (k+1))
    case measure=>omega
    case rel=>exact⟨k+1,by omega,rfl,by go_num,⟨by omega,by rw [HC.out,HD.out];have:=HQ.out;simp [cmpI,this]⟩,by first | exact hx.drewN _ | exact(hx.drewN _).drewN _⟩
   ·have hb1:decide (x<y)=false:=by simp;omega
    have hb2:decide (y<x)=true:=by simp;omega
    have hb3:decide (x>y)=true:=by simp;omega
    have HQ:=Lib.hid h
    clear h
    go_wp2_with fail
    go_quiet (fail)
    go_wp2_with fail
    go_quiet (fail)
    go_wp2_with fail
    go_ret
    exact⟨ret_int (by rw [HC.out,HD.out];have:=HQ.out;have h2 : ¬x<y:=(by omega);simp [cmpI,this,h2]),(hx.drewN _).drewN _⟩
  ·have hend:=lexI_done cmpI l l' k hk hk2 hlt
   have HE:=Lib.hid hend
   clear hend
   by_cases hk3:k<l.length
   ·have hd:decide ((k:Int)<(l.length:Int))=true:=by simp;omega
    have hdb:decide ((k:Int)<(l'.length:Int))=false:=by simp;omega
    go_wp2_with fail
    all_goals go_ret
    all_goals exact⟨ret_int (by rw [HC.out,HE.out];(repeat' split) <;> first | rfl | omega),hx⟩
   ·have hd:decide ((k:Int)<(l.length:Int))=false:=by simp;omega
    go_wp2_with fail
    all_goals go_ret
    all_goals exact⟨ret_int (by rw [HC.out,HE.out];(repeat' split) <;> first | rfl | omega),hx⟩
end Go.Proofs.YtombmdaohcjokaaGreatDoor
