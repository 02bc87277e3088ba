/- joined texts of a proof: BagT, GenA, GenB, PlainS -/
import Derived.Test.YtkddkbpoefidpaaGreatDoorKI03
import Derived.Test.YtkddkbpoefidpaaGreatDoorKI02
import Derived.Test.YtkddkbpoefidpaaGreatDoorKI01
import Derived.IntWalk
import Derived.Sort.LotA
namespace Go.Proofs.YtkddkbpoefidpaaGreatDoor
open Go.RowKit
def doneL (a b:List Int) (k:Nat):List Int:=if k=0 then []else if k=1 then a else a++b
set_option maxRecDepth 100000 in
set_option maxHeartbeats 4000000 in
theorem ref_mergeLineage (va vb:Value) (a b:List Int) (w:World) (ha:SliceOf Rep.int w.cell? va a) (hb:SliceOf Rep.int w.cell? vb b) (fa:a.length≤1048576) (fb:b.length≤1048576) :
  Calls Tryz.prog 116 #[va,vb] w fun e w'=> ∃v',e = .returned v'∧SliceOf Rep.int (on w' (since w)) v' (mergeL a b)∧Ext w w':=by
 obtain⟨i0,hi,hz0,hz1,hz2⟩:=info_parts info_ints
 have HA:=Lib.hid ha
 have HB:=Lib.hid hb
 obtain⟨pa,ca,rfl,_⟩:=ha.form
 obtain⟨pb,cb,rfl,_⟩:=hb.form
 clear ha hb
 have hsel : ∀k:Nat,k<2→ ∃pl cl,∃l:List Int,(∀W,(Instr.index 239 (.agg #[.slice pa a.length ca,.slice pb b.length cb]) (.int .i64 k)).run Tryz.prog W = .ok (.slice pl l.length cl) W)∧SliceOf Rep.int w.cell? (.slice pl l.length cl) l∧doneL a b (k+1)=doneL a b k++l∧l.length≤1048576∧(doneL a b k).length≤1048576:=by
  intro k hk
  by_cases h0:k=0
  ·subst h0
   exact⟨pa,ca,a,fun W=>by kernel_rfl,HA.out,by simp [doneL],fa,by simp [doneL]⟩
  ·have:k=1:=by omega
   subst this
   exact⟨pb,cb,b,fun W=>by kernel_rfl,HB.out,by simp [doneL],fb,by simpa [doneL] using fa⟩
 have HSEL:=Lib.hid hsel
 clear hsel
 go_enter Tryz.func116,Tryz.ntmps116
 go_wp2_with fail
 go_loopg [5,14] 2 (fun gk v i wr=> ∃(k:Nat) (o:List Int),k≤2∧gk=2 - k∧i = .int .i64 k∧OwnOf Rep.int wr (fun _=>True) w.heap.size 3 v o∧AscOf o (doneL a b k)∧Ext w wr)
 case atStart=>exact⟨0,[],by omega,rfl,rfl,OwnOf.nil _ _ _ _ _,by simpa [doneL] using AscOf.nil,Ext.refl w⟩
 case round =>
  obtain⟨kk,o0,hkk,rfl,rfl,hown0,hasc0,hx0⟩:=hrel
  have HO0:=Lib.hid hown0
  have HA0:=Lib.hid hasc0
  obtain⟨q0,c0,rfl,_⟩:=hown0.slice.form
  obtain⟨wA,rfl⟩ : ∃wA:World,wA=wr:=⟨_,rfl⟩
  clear hown0 hasc0
  by_cases hkl:kk<2
  ·obtain⟨pl,cl,l,hidx,hl,hdone,hl1,hd1⟩:=HSEL.out kk hkl
   have HL:=Lib.hid hl
   have HD:=Lib.hid hdone
   obtain⟨_,_,he,hcl,hcm,hpl⟩:=hl.form
   injection he with he1 _ he2
   subst he1 he2
   unfold maxLen at hcm
   have hlt2:decide ((kk:Int)<2)=true:=by simp;omega
   clear hl hdone
   go_wp2_with fail
   go_loopg [5,19] l.length (fun gk v i wr=> ∃(j:Nat) (o:List Int),j≤l.length∧gk=l.length - j∧i = .int .i64 j∧OwnOf Rep.int wr (fun _=>True) w.heap.size 3 v o∧AscOf o (doneL a b kk++l.take j)∧Ext w wr)
   case atStart=>exact⟨0,o0,by omega,rfl,rfl,HO0.out,by simpa using HA0.out,hx0⟩
   case round =>
    obtain⟨j,o,hj,rfl,rfl,hown,hasc,hx⟩:=hrel
    have holen:=hasc.2.2
    rw [List.length_append,List.length_take]at holen
    have HO:=Lib.hid hown
    have HASC0:=Lib.hid hasc
    have hform:(u5 = .slice none 0 0∧o = [])∨ ∃g cap,u5 = .slice (some ⟨g,0,none⟩) o.length cap∧o.length≤cap∧cap≤maxLen:=by
     obtain⟨css,h1,h2⟩:=hown
     rcases h2.2 with ⟨hv,h0⟩ | ⟨g,cap,cur,hv,_,_,h3,h4,_⟩
     ·exact .inl ⟨hv,List.eq_nil_of_length_eq_zero h0⟩
     ·exact .inr ⟨g,cap,hv,h3,h4⟩
    by_cases hlt:j<l.length
    ·have hd:decide ((j:Int)<(l.length:Int))=true:=by simp;omega
     have htk:=List.take_succ_eq_append_getElem hlt
     obtain⟨bl,ol,rfl⟩:=hpl (by decide) (by omega)
     obtain⟨e1,hr⟩:=int_at HL.out j hlt
     replace e1:=hx.at e1
     have hins:=hasc.ins l[j]
     have hold:=hasc.old l[j]
     generalize l[j]=x at htk e1 hr hins hold
     have HTK:=Lib.hid htk
     have HR:=Lib.hid hr
     have HINS:=Lib.hid hins
     have HOLD:=Lib.hid hold
     clear htk hr hasc hins hold
     have hsort:=HASC0.out.1
     have HSO:=Lib.hid hsort
     clear hsort
     rcases hform with ⟨rfl,hoe⟩ | ⟨g,cap,rfl,hcap1,hcap2⟩
     ·have HOE:=Lib.hid hoe
      have holn:o.length=0:=by rw [hoe];rfl
      have HOL:=Lib.hid holn
      clear hoe holn
      go_wp2_with fail
      go_loopg [10] 1 (fun gk i wq=>gk=1∧i = .int .i64 0∧wr=wq)
      case atStart=>exact⟨rfl,rfl,rfl⟩
      case round =>
       obtain⟨rfl,rfl,rfl⟩:=hrel
       have los:SliceOf Rep.int wr.cell? (.slice none 0 0) (o.take 0):=by rw [List.take_zero];exact SliceOf.nil _ _
       have his:SliceOf Rep.int wr.cell? (.slice none 0 0) (o.drop 0):=by rw [HOE.out];exact SliceOf.nil _ _
       have LOS:=Lib.hid los
       have HIS:=Lib.hid his
       have hasc:AscOf (o.take 0 ++ [x]++o.drop 0) (doneL a b kk++l.take j ++ [x]):=HINS.out 0 (by omega) (fun t _ h=>by omega) (fun h=>by rw [HOE.out]at h;simp at h)
       have HASC:=Lib.hid hasc
       have B1:([]:List Int).length+(o.take 0).length≤maxLen:=by simp [maxLen] <;> omega
       have B2:(([]:List Int).length+(o.take 0).length)*8≤140737488355328:=by simp <;> omega
       have B3:([]++o.take 0).length + [x].length≤maxLen:=by simp [maxLen] <;> omega
       have B4:(([]++o.take 0).length + [x].length)*8≤140737488355328:=by simp <;> omega
       have B5:([]++o.take 0 ++ [x]).length+(o.drop 0).length≤maxLen:=by simp [maxLen] <;> omega
       have B6:(([]++o.take 0 ++ [x]).length+(o.drop 0).length)*8≤140737488355328:=by simp <;> omega
       clear los his hasc
       skip
       go_wp2_with fail
       go_region_law (first
        |((with_reducible refine key_op 52 ?_);(try simp only [Act.put,List.getElem_toArray,List.getElem_cons_zero,List.getElem_cons_succ,List.setIfInBounds_toArray,List.set_cons_zero,List.set_cons_succ]);refine step_append_all Rep.int (fun _=>True) rfl _ _ 24 rfl wr.heap.size 3 i0 _ 8 Tryz.underlying24 hi hz0 hz1 hz2 rfl (by decide) (.slice none 0 0) ([]:List Int) rfl (OwnOf.nil _ _ _ _ _) (.slice none 0 0) (o.take 0) rfl (by first | with_reducible exact LOS.out.away flat_int (Ext.refl wr).drew (own_nil _) | with_reducible exact LOS.out.away flat_int ((Ext.refl wr).alloc _).drew (own_nil _)) B1 B2 (by first | with_reducible exact(Ext.refl wr).drew.size | with_reducible exact((Ext.refl wr).alloc _).drew.size) ?_;intro v1 w1 own1 gr1 at1;have x1:Ext wr w1:=(by first | with_reducible exact Ext.grownNew (Ext.refl wr).drew gr1 (own_nil _) | with_reducible exact Ext.grownNew ((Ext.refl wr).alloc _).drew gr1 (own_nil _)))
        |((with_reducible refine key_op 55 ?_);(try simp only [Act.put,List.setIfInBounds_toArray,List.set_cons_zero,List.set_cons_succ]);refine step_append_all Rep.int (fun _=>True) rfl _ _ 24 rfl wr.heap.size 3 i0 _ 8 Tryz.underlying24 hi hz0 hz1 hz2 rfl (by decide) v1 ([]++o.take 0) rfl (by first | with_reducible exact own1 | with_reducible exact own1.ext ((Ext.refl _).alloc _)) _ [x] rfl (by first | exact lone_new HR.out own1 | exact lone_old HR.out gr1 rfl at1) B3 B4 (by first | with_reducible exact x1.size | with_reducible exact(x1.alloc _).size) ?_;intro v2 w2 own2 gr2 at2;have x2:Ext wr w2:=(by first | with_reducible exact Ext.grownNew x1 gr2 own1.base | with_reducible exact Ext.grownNew (x1.alloc _) gr2 own1.base))
        |((with_reducible refine key_op 59 ?_);(try simp only [Act.put,List.setIfInBounds_toArray,List.set_cons_zero,List.set_cons_succ]);refine step_append_all Rep.int (fun _=>True) rfl _ _ 24 rfl wr.heap.size 3 i0 _ 8 Tryz.underlying24 hi hz0 hz1 hz2 rfl (by decide) v2 ([]++o.take 0 ++ [x]) rfl own2 (.slice none 0 0) (o.drop 0) rfl (HIS.out.away flat_int x2 own2.base) B5 B6 x2.size ?_;intro v3 w3 own3 gr3 at3;have x3:Ext wr w3:=Ext.grownNew x2 gr3 own2.base))
       all_goals
        have R3:=own3.weak (T:=fun _=>True) (fun _ _ h=>h) hx.size
        have X3:=hx.trans x3
        rw [List.nil_append]at R3
        have H3:=Lib.hid R3
        clear R3 own1 own2 own3 gr1 gr2 gr3 at1 at2 at3 x1 x2 x3 hx HO LOS HIS
        go_wp2_with fail
        go_roundg (l.length - (j+1))
        case measure=>omega
        case rel=>exact⟨j+1,_,by omega,rfl,by go_num,H3.out,by rw [HTK.out,←List.append_assoc];exact HASC.out,X3⟩
     ·unfold maxLen at hcap2
      go_wp2_with fail
      go_loopg [10] o.length (fun gk i wq=> ∃k:Nat,k≤o.length∧gk=o.length - k∧i = .int .i64 k∧(∀(t:Nat) (ht:t<o.length),t<k→o[t]<x)∧wr=wq)
      case atStart=>exact⟨0,by omega,rfl,rfl,fun t _ h=>by omega,rfl⟩
      case round =>
       obtain⟨k,hk,rfl,rfl,hall,rfl⟩:=hrel
       have HALL:=Lib.hid hall
       clear hall
       by_cases hkl:k<o.length
       ·obtain⟨e2,_⟩:=int_at HO.out.slice k hkl
        rw [Nat.zero_add]at e2
        generalize hz:o[k]=z at e2
        have HZ:=Lib.hid hz
        clear hz
        have hd2:decide ((k:Int)<(o.length:Int))=true:=by simp;omega
        have hd3:(k:Int)<(o.length:Int):=by omega
        have hd5:((k:Int)==(o.length:Int))=false:=by simp;omega
        by_cases hzx:z<x
        ·have hd4:decide (z<x)=true:=by simp [hzx]
         go_wp2_with fail
         go_roundg (o.length - (k+1))
         case measure=>omega
         case rel=>exact⟨k+1,by omega,rfl,by go_num,fun t ht h=>by
           by_cases htk:t<k
           ·exact HALL.out t ht htk
           ·have:t=k:=by omega
            subst this
            rw [HZ.out];exact hzx,rfl⟩
        ·have hd4:decide (z<x)=false:=by simp;omega
         by_cases hze:z=x
         · have hd6:(z != x)=false:=by simp [hze]
           have HOLD2:=Lib.hid (HOLD.out k hkl (by rw [HZ.out];exact hze))
           clear hze
           go_wp2_with fail
           go_roundg (l.length - (j+1))
           case measure=>omega
           case rel=>exact⟨j+1,o,by omega,rfl,by go_num,HO.out,by rw [HTK.out,←List.append_assoc];exact HOLD2.out,hx⟩
         · have hd6:(z != x)=true:=by simp [hze]
           have los:SliceOf Rep.int wr.cell? (.slice (some ⟨g,0,none⟩) k cap) (o.take k):=HO.out.slice.takeV k (by omega)
           have his:SliceOf Rep.int wr.cell? (.slice (some ⟨g,k,none⟩) (o.length - k) (cap - k)) (o.drop k):=by have h:=HO.out.slice.dropV k (by omega);rwa [show Rep.int.size=1 from rfl,Nat.mul_one,Nat.zero_add]at h
           have LOS:=Lib.hid los
           have HIS:=Lib.hid his
           have hasc:AscOf (o.take k ++ [x]++o.drop k) (doneL a b kk++l.take j ++ [x]):=HINS.out k (by omega) HALL.out (fun h=>by rw [HZ.out];omega)
           have HASC:=Lib.hid hasc
           have B1:([]:List Int).length+(o.take k).length≤maxLen:=by simp [maxLen] <;> omega
           have B2:(([]:List Int).length+(o.take k).length)*8≤140737488355328:=by simp <;> omega
           have B3:([]++o.take k).length + [x].length≤maxLen:=by simp [maxLen] <;> omega
           have B4:(([]++o.take k).length + [x].length)*8≤140737488355328:=by simp <;> omega
           have B5:([]++o.take k ++ [x]).length+(o.drop k).length≤maxLen:=by simp [maxLen] <;> omega
           have B6:(([]++o.take k ++ [x]).length+(o.drop k).length)*8≤140737488355328:=by simp <;> omega
           clear los his hasc
           have hkc:k≤cap:=by omega
           have hkc2 : ¬cap=k:=by omega
           have hkc3 : ¬(k:Int)=(cap:Int):=by omega
           go_wp2_with fail
           go_region_law (first
            |((with_reducible refine key_op 52 ?_);(try simp only [Act.put,List.getElem_toArray,List.getElem_cons_zero,List.getElem_cons_succ,List.setIfInBounds_toArray,List.set_cons_zero,List.set_cons_succ]);refine step_append_all Rep.int (fun _=>True) rfl _ _ 24 rfl wr.heap.size 3 i0 _ 8 Tryz.underlying24 hi hz0 hz1 hz2 rfl (by decide) (.slice none 0 0) ([]:List Int) rfl (OwnOf.nil _ _ _ _ _) (.slice (some ⟨g,0,none⟩) k cap) (o.take k) rfl (by first | with_reducible exact LOS.out.away flat_int (Ext.refl wr).drew (own_nil _) | with_reducible exact LOS.out.away flat_int ((Ext.refl wr).alloc _).drew (own_nil _)) B1 B2 (by first | with_reducible exact(Ext.refl wr).drew.size | with_reducible exact((Ext.refl wr).alloc _).drew.size) ?_;intro v1 w1 own1 gr1 at1;have x1:Ext wr w1:=(by first | with_reducible exact Ext.grownNew (Ext.refl wr).drew gr1 (own_nil _) | with_reducible exact Ext.grownNew ((Ext.refl wr).alloc _).drew gr1 (own_nil _)))
            |((with_reducible refine key_op 55 ?_);(try simp only [Act.put,List.setIfInBounds_toArray,List.set_cons_zero,List.set_cons_succ]);refine step_append_all Rep.int (fun _=>True) rfl _ _ 24 rfl wr.heap.size 3 i0 _ 8 Tryz.underlying24 hi hz0 hz1 hz2 rfl (by decide) v1 ([]++o.take k) rfl (by first | with_reducible exact own1 | with_reducible exact own1.ext ((Ext.refl _).alloc _)) _ [x] rfl (by first | exact lone_new HR.out own1 | exact lone_old HR.out gr1 rfl at1) B3 B4 (by first | with_reducible exact x1.size | with_reducible exact(x1.alloc _).size) ?_;intro v2 w2 own2 gr2 at2;have x2:Ext wr w2:=(by first | with_reducible exact Ext.grownNew x1 gr2 own1.base | with_reducible exact Ext.grownNew (x1.alloc _) gr2 own1.base))
            |((with_reducible refine key_op 59 ?_);(try simp only [Act.put,List.setIfInBounds_toArray,List.set_cons_zero,List.set_cons_succ]);refine step_append_all Rep.int (fun _=>True) rfl _ _ 24 rfl wr.heap.size 3 i0 _ 8 Tryz.underlying24 hi hz0 hz1 hz2 rfl (by decide) v2 ([]++o.take k ++ [x]) rfl own2 (.slice (some ⟨g,k,none⟩) (o.length - k) (cap - k)) (o.drop k) rfl (HIS.out.away flat_int x2 own2.base) B5 B6 x2.size ?_;intro v3 w3 own3 gr3 at3;have x3:Ext wr w3:=Ext.grownNew x2 gr3 own2.base))
           all_goals
            have R3:=own3.weak (T:=fun _=>True) (fun _ _ h=>h) hx.size
            have X3:=hx.trans x3
            rw [List.nil_append]at R3
            have H3:=Lib.hid R3
            clear R3 own1 own2 own3 gr1 gr2 gr3 at1 at2 at3 x1 x2 x3 hx HO LOS HIS
            go_wp2_with fail
            go_roundg (l.length - (j+1))
            case measure=>omega
            case rel=>exact⟨j+1,_,by omega,rfl,by go_num,H3.out,by rw [HTK.out,←List.append_assoc];exact HASC.out,X3⟩
       ·have:k=o.length:=by omega
        have hd2:decide ((k:Int)<(o.length:Int))=false:=by simp;omega
        have hd5:((k:Int)==(o.length:Int))=true:=by simp;omega
        have hkn:k=o.length:=this
        have HKN:=Lib.hid hkn
        clear this hkn
        by_cases hcu:k=cap
        ·subst hcu
         have los:SliceOf Rep.int wr.cell? (.slice (some ⟨g,0,none⟩) k k) (o.take k):=HO.out.slice.takeV k (by omega)
         have his:SliceOf Rep.int wr.cell? (.slice (some ⟨g,0,none⟩) 0 0) (o.drop k):=by rw [List.drop_eq_nil_of_le (by omega)];exact⟨[],trivial,.inr ⟨_,0,rfl,Nat.le_refl _,by simp [maxLen],.inl rfl⟩⟩
         have LOS:=Lib.hid los
         have HIS:=Lib.hid his
         have hasc:AscOf (o.take k ++ [x]++o.drop k) (doneL a b kk++l.take j ++ [x]):=HINS.out k (by omega) HALL.out (fun h=>by omega)
         have HASC:=Lib.hid hasc
         have B1:([]:List Int).length+(o.take k).length≤maxLen:=by simp [maxLen] <;> omega
         have B2:(([]:List Int).length+(o.take k).length)*8≤140737488355328:=by simp <;> omega
         have B3:([]++o.take k).length + [x].length≤maxLen:=by simp [maxLen] <;> omega
         have B4:(([]++o.take k).length + [x].length)*8≤140737488355328:=by simp <;> omega
         have B5:([]++o.take k ++ [x]).length+(o.drop k).length≤maxLen:=by simp [maxLen] <;> omega
         have B6:(([]++o.take k ++ [x]).length+(o.drop k).length)*8≤140737488355328:=by simp <;> omega
         clear los his hasc
         have hkc:k≤k:=Nat.le_refl k
         go_wp2_with fail
         go_region_law (first
           |((with_reducible refine key_op 52 ?_);(try simp only [Act.put,List.getElem_toArray,List.getElem_cons_zero,List.getElem_cons_succ,List.setIfInBounds_toArray,List.set_cons_zero,List.set_cons_succ]);refine step_append_all Rep.int (fun _=>True) rfl _ _ 24 rfl wr.heap.size 3 i0 _ 8 Tryz.underlying24 hi hz0 hz1 hz2 rfl (by decide) (.slice none 0 0) ([]:List Int) rfl (OwnOf.nil _ _ _ _ _) (.slice (some ⟨g,0,none⟩) k k) (o.take k) rfl (by first | with_reducible exact LOS.out.away flat_int (Ext.refl wr).drew (own_nil _) | with_reducible exact LOS.out.away flat_int ((Ext.refl wr).alloc _).drew (own_nil _)) B1 B2 (by first | with_reducible exact(Ext.refl wr).drew.size | with_reducible exact((Ext.refl wr).alloc _).drew.size) ?_;intro v1 w1 own1 gr1 at1;have x1:Ext wr w1:=(by first | with_reducible exact Ext.grownNew (Ext.refl wr).drew gr1 (own_nil _) | with_reducible exact Ext.grownNew ((Ext.refl wr).alloc _).drew gr1 (own_nil _)))
           |((with_reducible refine key_op 55 ?_);(try simp only [Act.put,List.setIfInBounds_toArray,List.set_cons_zero,List.set_cons_succ]);refine step_append_all Rep.int (fun _=>True) rfl _ _ 24 rfl wr.heap.size 3 i0 _ 8 Tryz.underlying24 hi hz0 hz1 hz2 rfl (by decide) v1 ([]++o.take k) rfl (by first | with_reducible exact own1 | with_reducible exact own1.ext ((Ext.refl _).alloc _)) _ [x] rfl (by first | exact lone_new HR.out own1 | exact lone_old HR.out gr1 rfl at1) B3 B4 (by first | with_reducible exact x1.size | with_reducible exact(x1.alloc _).size) ?_;intro v2 w2 own2 gr2 at2;have x2:Ext wr w2:=(by first | with_reducible exact Ext.grownNew x1 gr2 own1.base | with_reducible exact Ext.grownNew (x1.alloc _) gr2 own1.base))
           |((with_reducible refine key_op 59 ?_);(try simp only [Act.put,List.setIfInBounds_toArray,List.set_cons_zero,List.set_cons_succ]);refine step_append_all Rep.int (fun _=>True) rfl _ _ 24 rfl wr.heap.size 3 i0 _ 8 Tryz.underlying24 hi hz0 hz1 hz2 rfl (by decide) v2 ([]++o.take k ++ [x]) rfl own2 (.slice (some ⟨g,0,none⟩) 0 0) (o.drop k) rfl (HIS.out.away flat_int x2 own2.base) B5 B6 x2.size ?_;intro v3 w3 own3 gr3 at3;have x3:Ext wr w3:=Ext.grownNew x2 gr3 own2.base))
         all_goals
           have R3:=own3.weak (T:=fun _=>True) (fun _ _ h=>h) hx.size
           have X3:=hx.trans x3
           rw [List.nil_append]at R3
           have H3:=Lib.hid R3
           clear R3 own1 own2 own3 gr1 gr2 gr3 at1 at2 at3 x1 x2 x3 hx HO LOS HIS
           go_wp2_with fail
           go_roundg (l.length - (j+1))
           case measure=>omega
           case rel=>exact⟨j+1,_,by omega,rfl,by go_num,H3.out,by rw [HTK.out,←List.append_assoc];exact HASC.out,X3⟩
        ·have hcu2 : ¬(k:Int)=(cap:Int):=by omega
         have los:SliceOf Rep.int wr.cell? (.slice (some ⟨g,0,none⟩) k cap) (o.take k):=HO.out.slice.takeV k (by omega)
         have his:SliceOf Rep.int wr.cell? (.slice (some ⟨g,k,none⟩) (o.length - k) (cap - k)) (o.drop k):=by have h:=HO.out.slice.dropV k (by omega);rwa [show Rep.int.size=1 from rfl,Nat.mul_one,Nat.zero_add]at h
         have LOS:=Lib.hid los
         have HIS:=Lib.hid his
         have hasc:AscOf (o.take k ++ [x]++o.drop k) (doneL a b kk++l.take j ++ [x]):=HINS.out k (by omega) HALL.out (fun h=>by omega)
         have HASC:=Lib.hid hasc
         have B1:([]:List Int).length+(o.take k).length≤maxLen:=by simp [maxLen] <;> omega
         have B2:(([]:List Int).length+(o.take k).length)*8≤140737488355328:=by simp <;> omega
         have B3:([]++o.take k).length + [x].length≤maxLen:=by simp [maxLen] <;> omega
         have B4:(([]++o.take k).length + [x].length)*8≤140737488355328:=by simp <;> omega
         have B5:([]++o.take k ++ [x]).length+(o.drop k).length≤maxLen:=by simp [maxLen] <;> omega
         have B6:(([]++o.take k ++ [x]).length+(o.drop k).length)*8≤140737488355328:=by simp <;> omega
         clear los his hasc
         have hkc:k≤cap:=by omega
         have hkc2 : ¬cap=k:=by omega
         have hkc3 : ¬(k:Int)=(cap:Int):=by omega
         go_wp2_with fail
         go_region_law (first
           |((with_reducible refine key_op 52 ?_);(try simp only [Act.put,List.getElem_toArray,List.getElem_cons_zero,List.getElem_cons_succ,List.setIfInBounds_toArray,List.set_cons_zero,List.set_cons_succ]);refine step_append_all Rep.int (fun _=>True) rfl _ _ 24 rfl wr.heap.size 3 i0 _ 8 Tryz.underlying24 hi hz0 hz1 hz2 rfl (by decide) (.slice none 0 0) ([]:List Int) rfl (OwnOf.nil _ _ _ _ _) (.slice (some ⟨g,0,none⟩) k cap) (o.take k) rfl (by first | with_reducible exact LOS.out.away flat_int (Ext.refl wr).drew (own_nil _) | with_reducible exact LOS.out.away flat_int ((Ext.refl wr).alloc _).drew (own_nil _)) B1 B2 (by first | with_reducible exact(Ext.refl wr).drew.size | with_reducible exact((Ext.refl wr).alloc _).drew.size) ?_;intro v1 w1 own1 gr1 at1;have x1:Ext wr w1:=(by first | with_reducible exact Ext.grownNew (Ext.refl wr).drew gr1 (own_nil _) | with_reducible exact Ext.grownNew ((Ext.refl wr).alloc _).drew gr1 (own_nil _)))
           |((with_reducible refine key_op 55 ?_);(try simp only [Act.put,List.setIfInBounds_toArray,List.set_cons_zero,List.set_cons_succ]);refine step_append_all Rep.int (fun _=>True) rfl _ _ 24 rfl wr.heap.size 3 i0 _ 8 Tryz.underlying24 hi hz0 hz1 hz2 rfl (by decide) v1 ([]++o.take k) rfl (by first | with_reducible exact own1 | with_reducible exact own1.ext ((Ext.refl _).alloc _)) _ [x] rfl (by first | exact lone_new HR.out own1 | exact lone_old HR.out gr1 rfl at1) B3 B4 (by first | with_reducible exact x1.size | with_reducible exact(x1.alloc _).size) ?_;intro v2 w2 own2 gr2 at2;have x2:Ext wr w2:=(by first | with_reducible exact Ext.grownNew x1 gr2 own1.base | with_reducible exact Ext.grownNew (x1.alloc _) gr2 own1.base))
           |((with_reducible refine key_op 59 ?_);(try simp only [Act.put,List.setIfInBounds_toArray,List.set_cons_zero,List.set_cons_succ]);refine step_append_all Rep.int (fun _=>True) rfl _ _ 24 rfl wr.heap.size 3 i0 _ 8 Tryz.underlying24 hi hz0 hz1 hz2 rfl (by decide) v2 ([]++o.take k ++ [x]) rfl own2 (.slice (some ⟨g,k,none⟩) (o.length - k) (cap - k)) (o.drop k) rfl (HIS.out.away flat_int x2 own2.base) B5 B6 x2.size ?_;intro v3 w3 own3 gr3 at3;have x3:Ext wr w3:=Ext.grownNew x2 gr3 own2.base))
         all_goals
           have R3:=own3.weak (T:=fun _=>True) (fun _ _ h=>h) hx.size
           have X3:=hx.trans x3
           rw [List.nil_append]at R3
           have H3:=Lib.hid R3
           clear R3 own1 own2 own3 gr1 gr2 gr3 at1 at2 at3 x1 x2 x3 hx HO LOS HIS
           go_wp2_with fail
           go_roundg (l.length - (j+1))
           case measure=>omega
           case rel=>exact⟨j+1,_,by omega,rfl,by go_num,H3.out,by rw [HTK.out,←List.append_assoc];exact HASC.out,X3⟩
    ·have:j=l.length:=by omega
     subst this
     rw [List.take_length,←HD.out]at hasc
     have HASC:=Lib.hid hasc
     clear hasc
     rcases hform with ⟨rfl,rfl⟩ | ⟨g,cap,rfl,hcap1,hcap2⟩
     all_goals
      go_wp2_with fail
      go_roundg (2 - (kk+1))
      case measure=>omega
      case rel=>exact⟨kk+1,_,by omega,rfl,by go_num,HO.out,HASC.out,hx⟩
  ·have:kk=2:=by omega
   subst this
   go_wp2_with fail
   go_ret
   exact⟨_,rfl,by rw [←AscOf.merge (a:=a) (b:=b) (by simpa [doneL] using HA0.out)];exact HO0.out.fresh flat_int,hx0⟩
end Go.Proofs.YtkddkbpoefidpaaGreatDoor
namespace Go.Proofs.YtkddkbpoefidpaaGreatDoor
open Go.RowKit
def nV:Val:=⟨0,0,ByteArray.empty⟩
def intVal (n:Int):Val:=⟨1,n,ByteArray.empty⟩
theorem int_value (n:Int) (w:World):Calls Tryz.prog 49 #[.int .i64 n] w fun e w'=>e = .returned (valV (intVal n))∧Ext w w':=by
 go_enter Tryz.func49,Tryz.ntmps49
 go_wp2_with fail
 exact bodyPost_ret (v:=valV (intVal n)) (by simp [results,Tryz.results49,go_sem,valV,intVal];rfl) rfl ⟨rfl,by first | exact((Ext.refl w).alloc _) | exact Below.setCell (Below.setCell (Below.setCell ((Ext.refl w).alloc _) (by simp) _) (by simp) _) (by simp) _⟩
def genStr (x:Int):ByteArray:=if x % 3=0 then⟨#[]⟩else if x % 3=1 then⟨#[97]⟩else⟨#[98,39]⟩
def genV0 (x:Int):Val:=if x % 7=6 then nV else intVal (x % 3 - 1)
def genV1 (x:Int):Val:=if x % 7=6 then nV else⟨2,0,genStr x⟩
theorem value_0 (x:Int) (w:World) (h0:0≤x) (h1:x≤65535):Calls Tryz.prog 122 #[.int .i64 0,.int .u16 x] w fun e w'=>e = .returned (valV (genV0 x))∧Ext w w':=by
 by_cases h7:x % 7=6
 ·have hb:(x % 7==6)=true:=by simp [h7]
  have hv:genV0 x=nV:=if_pos h7
  have HV:=Lib.hid hv
  clear h7 hv
  go_enter Tryz.func122,Tryz.ntmps122
  go_wp2_with fail
  exact bodyPost_ret (v:=valV (genV0 x)) (by rw [HV.out];simp [results,Tryz.results122,go_sem,valV,nV];rfl) rfl ⟨rfl,(Ext.refl w).alloc _⟩
 ·have hb:(x % 7==6)=false:=by simp [h7]
  have hv:genV0 x=intVal (x % 3 - 1):=if_neg h7
  have HV:=Lib.hid hv
  clear h7 hv
  go_enter Tryz.func122,Tryz.ntmps122
  go_wp2_with fail
  refine(int_value _ _).mono ?_
  rintro e w1 ⟨rfl,x1⟩
  have z1:=x1.size
  simp at z1
  have c0:=x1.at (p:=⟨w.heap.size,0,none⟩) (v:= .int .i64 0) (by go_simp)
  have c1:=x1.at (p:=⟨w.heap.size,1,none⟩) (v:= .int .i64 0) (by go_simp)
  have c2:=x1.at (p:=⟨w.heap.size,2,none⟩) (v:= .string ⟨#[]⟩) (by go_simp)
  have f0:=x1.unfrozen (p:=⟨w.heap.size,0,none⟩) (v:= .int .i64 0) (by go_simp) (by go_simp)
  have f1:=x1.unfrozen (p:=⟨w.heap.size,1,none⟩) (v:= .int .i64 0) (by go_simp) (by go_simp)
  have f2:=x1.unfrozen (p:=⟨w.heap.size,2,none⟩) (v:= .string ⟨#[]⟩) (by go_simp) (by go_simp)
  go_wp2_with fail
  exact bodyPost_ret (v:=valV (genV0 x)) (by rw [HV.out];simp [results,Tryz.results122,go_sem,valV,intVal,c0,c1,c2]) rfl ⟨rfl,Below.setCell (Below.setCell (Below.setCell (((Ext.refl w).alloc _).trans x1) (by simp) _) (by simp) _) (by simp) _⟩
theorem value_1 (x:Int) (w:World) (h0:0≤x) (h1:x≤65535):Calls Tryz.prog 122 #[.int .i64 1,.int .u16 x] w fun e w'=>e = .returned (valV (genV1 x))∧Ext w w':=by
 by_cases h7:x % 7=6
 ·have hb:(x % 7==6)=true:=by simp [h7]
  have hv:genV1 x=nV:=if_pos h7
  have HV:=Lib.hid hv
  clear h7 hv
  go_enter Tryz.func122,Tryz.ntmps122
  go_wp2_with fail
  exact bodyPost_ret (v:=valV (genV1 x)) (by rw [HV.out];simp [results,Tryz.results122,go_sem,valV,nV];rfl) rfl ⟨rfl,(Ext.refl w).alloc _⟩
 ·have hb:(x % 7==6)=false:=by simp [h7]
  have hv:genV1 x=⟨2,0,genStr x⟩:=if_neg h7
  have h3:x % 3=0∨x % 3=1∨x % 3=2:=by omega
  unfold genStr at hv
  clear h7
  rcases h3 with h3 | h3 | h3
  all_goals
   rw [h3]at hv
   simp at hv
   have HV:=Lib.hid hv
   clear hv
   go_enter Tryz.func122,Tryz.ntmps122
   go_wp2_with fail
   exact bodyPost_ret (v:=valV (genV1 x)) (by rw [HV.out];simp [results,Tryz.results122,go_sem,valV]) rfl ⟨rfl,by first | exact Below.setCell (Below.setCell (Below.setCell (((Ext.refl w).alloc _).alloc _) (by simp) _) (by simp) _) (by simp) _ | exact((Ext.refl w).alloc _).alloc _⟩
def okVal (x:Val):Prop:=(-9223372036854775808≤x.kind∧x.kind≤9223372036854775807)∧(-9223372036854775808≤x.n∧x.n≤9223372036854775807)∧x.s.size≤maxLen
theorem ok_nV:okVal nV:=⟨by decide,by decide,by simp [nV,maxLen]⟩
theorem ok_genV0 (x:Int):okVal (genV0 x):=by
 unfold genV0
 split
 ·exact ok_nV
 ·exact⟨by simp [intVal],by simp [intVal];omega,by simp [intVal,maxLen]⟩
theorem ok_genV1 (x:Int):okVal (genV1 x):=by
 unfold genV1
 split
 ·exact ok_nV
 ·refine⟨by simp,by simp,?_⟩
  unfold genStr
  (repeat' split) <;> simp [maxLen,ByteArray.size]
def genVals (x y:Int):List Val:= [genV0 x,genV1 y]
theorem vals_gen (x y:Int) (w:World) (h0:0≤x) (h1:x≤65535) (h2:0≤y) (h3:y≤65535) :
  Calls Tryz.prog 65 #[.int .u16 x,.int .u16 y] w fun e w'=> ∃v,e = .returned v∧SliceOf Rep.val (on w' (fun k=>w.heap.size≤k)) v (genVals x y)∧Ext w w':=by
 go_enter Tryz.func65,Tryz.ntmps65
 go_wp2_with fail
 refine(value_0 x _ h0 h1).mono ?_
 rintro e w1 ⟨rfl,x1⟩
 go_wp2_with fail
 refine(value_1 y _ h2 h3).mono ?_
 rintro e w2 ⟨rfl,x2⟩
 go_wp2_with fail
 refine bodyPost_ret (v:= .slice (some ⟨w2.heap.size,0,none⟩) 2 2) (by simp [results,Tryz.results65,go_sem]) rfl ⟨_,rfl,?_,(x1.trans x2).alloc _⟩
 refine SliceOf.flatOn flat_val (slice_lit Rep.val w2 _ 73 [[.int .i64 (genV0 x).kind,.int .i64 (genV0 x).n,.string (genV0 x).s],[.int .i64 (genV1 y).kind,.int .i64 (genV1 y).n,.string (genV1 y).s]] (genVals x y) rfl ⟨⟨rfl,ok_genV0 x⟩,⟨rfl,ok_genV1 y⟩,trivial⟩ (by simp [genVals,maxLen])) fun ad n c h=> ?_
 injection h with h _ _
 injection h with h
 rw [←h]
 exact(x1.trans x2).size
def genFrom (x:Int):Int:=x % 40
def genTo (x y:Int):Int:=if y % 11=0 then 1000000 else x % 40+1+y % 15
end Go.Proofs.YtkddkbpoefidpaaGreatDoor
namespace Go.Proofs.YtkddkbpoefidpaaGreatDoor
open Go.RowKit
structure Num5 where
 a:Int
 b:Int
 c:Int
 d:Int
 e:Int
def okNum (x:Num5):Prop:=(0≤x.a∧x.a≤65535)∧(0≤x.b∧x.b≤65535)∧(0≤x.c∧x.c≤65535)∧(0≤x.d∧x.d≤65535)∧(0≤x.e∧x.e≤65535)
def Rep.num:Rep Num5 where
 size:=5
 holds _ cs x:=cs = [.int .u16 x.a,.int .u16 x.b,.int .u16 x.c,.int .u16 x.d,.int .u16 x.e]∧okNum x
 len:=by rintro w cs x ⟨rfl,_⟩;rfl
 ext:=by rintro w w' cs x h _;exact h
 one:=by rintro w cs x ⟨rfl,_⟩;simp [Value.oneCell']
def genTup (x:Num5):Tup:=⟨genVals x.c x.d,genFrom x.a,genTo x.a x.b,[1+x.e % 5]⟩
def Free4 (w:World) (B:Nat):Prop:=(∃u,w.cell? ⟨B,0,none⟩=some u)∧(∃u,w.cell? ⟨B,1,none⟩=some u)∧(∃u,w.cell? ⟨B,2,none⟩=some u)∧(∃u,w.cell? ⟨B,3,none⟩=some u)∧w.frozen? ⟨B,0,none⟩=false∧w.frozen? ⟨B,1,none⟩=false∧w.frozen? ⟨B,2,none⟩=false∧w.frozen? ⟨B,3,none⟩=false
theorem Free4.ext {w w':World} {B:Nat} (h:Free4 w B) (hx:Ext w w'):Free4 w' B:=by
 obtain⟨⟨a,ha⟩,⟨b,hb⟩,⟨c,hc⟩,⟨d,hd⟩,fa,fb,fc,fd⟩:=h
 exact⟨⟨a,hx.at ha⟩,⟨b,hx.at hb⟩,⟨c,hx.at hc⟩,⟨d,hx.at hd⟩,hx.unfrozen ha fa,hx.unfrozen hb fb,hx.unfrozen hc fc,hx.unfrozen hd fd⟩
theorem set4_read {wa:World} {B:Nat} (h:Free4 wa B) (u0 u1 u2 u3:Value) :
  ((((wa.setCell ⟨B,0,none⟩ u0).setCell ⟨B,1,none⟩ u1).setCell ⟨B,2,none⟩ u2).setCell ⟨B,3,none⟩ u3).cell? ⟨B,0,none⟩=some u0∧((((wa.setCell ⟨B,0,none⟩ u0).setCell ⟨B,1,none⟩ u1).setCell ⟨B,2,none⟩ u2).setCell ⟨B,3,none⟩ u3).cell? ⟨B,1,none⟩=some u1∧((((wa.setCell ⟨B,0,none⟩ u0).setCell ⟨B,1,none⟩ u1).setCell ⟨B,2,none⟩ u2).setCell ⟨B,3,none⟩ u3).cell? ⟨B,2,none⟩=some u2∧((((wa.setCell ⟨B,0,none⟩ u0).setCell ⟨B,1,none⟩ u1).setCell ⟨B,2,none⟩ u2).setCell ⟨B,3,none⟩ u3).cell? ⟨B,3,none⟩=some u3:=by
 obtain⟨⟨a,ha⟩,⟨b,hb⟩,⟨c,hc⟩,⟨d,hd⟩,_⟩:=h
 refine⟨?_,?_,?_,?_⟩ <;> go_simp
theorem ret4 {P:Program} {fn:Func} {R:Ending→World→Prop} {a:Act} {wa:World} {B:Nat} {u0 u1 u2 u3:Value} (h:Free4 wa B)
 (hr:(((((wa.setCell ⟨B,0,none⟩ u0).setCell ⟨B,1,none⟩ u1).setCell ⟨B,2,none⟩ u2).setCell ⟨B,3,none⟩ u3).cell? ⟨B,0,none⟩=some u0∧((((wa.setCell ⟨B,0,none⟩ u0).setCell ⟨B,1,none⟩ u1).setCell ⟨B,2,none⟩ u2).setCell ⟨B,3,none⟩ u3).cell? ⟨B,1,none⟩=some u1∧((((wa.setCell ⟨B,0,none⟩ u0).setCell ⟨B,1,none⟩ u1).setCell ⟨B,2,none⟩ u2).setCell ⟨B,3,none⟩ u3).cell? ⟨B,2,none⟩=some u2∧((((wa.setCell ⟨B,0,none⟩ u0).setCell ⟨B,1,none⟩ u1).setCell ⟨B,2,none⟩ u2).setCell ⟨B,3,none⟩ u3).cell? ⟨B,3,none⟩=some u3)→(results fn a.tmps).run P ((((wa.setCell ⟨B,0,none⟩ u0).setCell ⟨B,1,none⟩ u1).setCell ⟨B,2,none⟩ u2).setCell ⟨B,3,none⟩ u3) = .ok (.agg #[u0,u1,u2,u3]) ((((wa.setCell ⟨B,0,none⟩ u0).setCell ⟨B,1,none⟩ u1).setCell ⟨B,2,none⟩ u2).setCell ⟨B,3,none⟩ u3)) (hd:a.defers = [])
 (hR:R (.returned (.agg #[u0,u1,u2,u3])) ((((wa.setCell ⟨B,0,none⟩ u0).setCell ⟨B,1,none⟩ u1).setCell ⟨B,2,none⟩ u2).setCell ⟨B,3,none⟩ u3)):bodyPost P fn R .ret a ((((wa.setCell ⟨B,0,none⟩ u0).setCell ⟨B,1,none⟩ u1).setCell ⟨B,2,none⟩ u2).setCell ⟨B,3,none⟩ u3):=bodyPost_ret (hr (set4_read h u0 u1 u2 u3)) hd hR
theorem sub4 (wa:World) {B:Nat} (u0 u1 u2 u3:Value) {S:Nat→Prop} (hB : ¬S B):Sub (on wa S) (on ((((wa.setCell ⟨B,0,none⟩ u0).setCell ⟨B,1,none⟩ u1).setCell ⟨B,2,none⟩ u2).setCell ⟨B,3,none⟩ u3) S) :=
 (((set_sub wa _ u0 hB).trans (set_sub _ _ u1 hB)).trans (set_sub _ _ u2 hB)).trans (set_sub _ _ u3 hB)
end Go.Proofs.YtkddkbpoefidpaaGreatDoor
namespace Go.Proofs.YtkddkbpoefidpaaGreatDoor
open Go.Sort
section
variable {α:Type} [Inhabited α]
theorem get_at (d:Array α) {x y:Nat} (h:x=y):d[x]! = d[y]! := by rw [h]
def SwapOf (d d':Array α) (a b n:Nat):Prop :=
 d'.size=d.size∧ ∀k,d'[k]! = if a≤k∧k<a+n then d[k - a+b]! else if b≤k∧k<b+n then d[k - b+a]! else d[k]!
def RotOf (d d':Array α) (lo i j:Nat):Prop :=
 d'.size=d.size∧ ∀k,d'[k]! = if lo≤k∧k<lo+j then d[k+i]! else if lo+j≤k∧k<lo+i+j then d[k - j]! else d[k]!
theorem SwapOf.zero (d:Array α) (a b:Nat):SwapOf d d a b 0:=⟨rfl,fun k=>by rw [if_neg (by omega),if_neg (by omega)]⟩
theorem SwapOf.step {d dk:Array α} {a b i:Nat} (h:SwapOf d dk a b i) (hab:a+i+1≤b) (hb:b+i<d.size):SwapOf d (swp dk (a+i) (b+i)) a b (i+1):=by
 have hs:=h.1
 refine⟨by rw [size_swp];exact h.1,fun k=> ?_⟩
 rw [swp_get dk (by omega) (by omega),h.2 (a+i),h.2 (b+i),h.2 k]
 repeat' split
 all_goals first | omega | rfl | exact get_at d (by omega)
theorem RotOf.left {d d2 d':Array α} {lo i j:Nat} (h:SwapOf d d2 lo (lo+i) j) (hij:j<i) (k:RotOf d2 d' (lo+j) (i - j) j):RotOf d d' lo i j:=by
 refine⟨k.1.trans h.1,fun x=> ?_⟩
 rw [k.2 x,h.2 (x+(i - j)),h.2 (x - j),h.2 x]
 repeat' split
 all_goals first | omega | rfl | exact get_at d (by omega)
theorem RotOf.right {d d2 d':Array α} {lo i j:Nat} (h:SwapOf d d2 lo (lo+j) i) (hij:i<j) (k:RotOf d2 d' lo i (j - i)):RotOf d d' lo i j:=by
 refine⟨k.1.trans h.1,fun x=> ?_⟩
 rw [k.2 x,h.2 (x+i),h.2 (x - (j - i)),h.2 x]
 repeat' split
 all_goals first | omega | rfl | exact get_at d (by omega)
theorem RotOf.last {d d2:Array α} {lo i:Nat} (h:SwapOf d d2 lo (lo+i) i):RotOf d d2 lo i i:=by
 refine⟨h.1,fun x=> ?_⟩
 rw [h.2 x]
 repeat' split
 all_goals first | omega | rfl | exact get_at d (by omega)
theorem RotOf.none_left (d:Array α) (lo j:Nat):RotOf d d lo 0 j:=⟨rfl,fun k=>by
 repeat' split
 all_goals first | omega | rfl⟩
theorem RotOf.none_right (d:Array α) (lo i:Nat):RotOf d d lo i 0:=⟨rfl,fun k=>by
 repeat' split
 all_goals first | omega | rfl⟩
theorem RotOf.up {d dk:Array α} {a k:Nat} (h:RotOf d dk a 1 (k - a)) (hak:a≤k) (hk:k+1<d.size):RotOf d (swp dk k (k+1)) a 1 (k+1 - a):=by
 have hs:=h.1
 refine⟨by rw [size_swp];exact h.1,fun x=> ?_⟩
 rw [swp_get dk (by omega) (by omega),h.2 k,h.2 (k+1),h.2 x]
 repeat' split
 all_goals first | omega | rfl | exact get_at d (by omega)
theorem RotOf.down {d dk:Array α} {m k:Nat} (h:RotOf d dk k (m - k) 1) (h0:0<k) (hkm:k≤m) (hm:m<d.size):RotOf d (swp dk k (k - 1)) (k - 1) (m - (k - 1)) 1:=by
 have hs:=h.1
 refine⟨by rw [size_swp];exact h.1,fun x=> ?_⟩
 rw [swp_get dk (by omega) (by omega),h.2 k,h.2 (k - 1),h.2 x]
 repeat' split
 all_goals first | omega | rfl | exact get_at d (by omega)
variable {lt:α→α→Bool}
theorem srt_le (hS:SWO lt) {a b i j:Nat} {d:Array α} (h:SortedIn lt a b d) (hi:a≤i) (hij:i≤j) (hj:j<b):lt d[j]! d[i]! = false:=by
 by_cases e:i=j
 ·subst e;exact hS.irrefl _
 ·exact h i j hi (by omega) hj
theorem sorted_join {a m b:Nat} {d:Array α} (h1:SortedIn lt a m d) (h2:SortedIn lt m b d) (hc : ∀i j,a≤i→i<m→m≤j→j<b→lt d[j]! d[i]! = false):SortedIn lt a b d:=by
 intro i j hi hij hj
 by_cases him:i<m
 ·by_cases hjm:j<m
  ·exact h1 i j hi hij hjm
  ·exact hc i j hi him (by omega) hj
 ·exact h2 i j (by omega) hij hj
theorem sorted_one {a:Nat} {d:Array α}:SortedIn lt a (a+1) d:=fun i j hi hij hj=>by omega
theorem rot_parts (hS:SWO lt) {d d1:Array α} {a s m e b:Nat} (h1:SortedIn lt a m d) (h2:SortedIn lt m b d) (has:a≤s) (hsm:s≤m) (hme:m≤e) (heb:e≤b) (hr:RotOf d d1 s (m - s) (e - m))
  (hlo:s=a∨e=b∨lt d[e]! d[s - 1]! = false) (hhi:s=m∨e=m∨lt d[e - 1]! d[s]! = true) :
  SortedIn lt a s d1∧SortedIn lt s (s+(e - m)) d1∧SortedIn lt (s+(e - m)) e d1∧SortedIn lt e b d1 ∧
   ∀i j,a≤i→i<s+(e - m)→s+(e - m)≤j→j<b→lt d1[j]! d1[i]! = false:=by
 have gA1 : ∀x,x<s→d1[x]! = d[x]! := fun x hx=>by rw [hr.2 x,if_neg (by omega),if_neg (by omega)]
 have gB1 : ∀x,s≤x→x<s+(e - m)→d1[x]! = d[x+(m - s)]! := fun x hx hx2=>by rw [hr.2 x,if_pos ⟨hx,hx2⟩]
 have gA2 : ∀x,s+(e - m)≤x→x<e→d1[x]! = d[x - (e - m)]! := fun x hx hx2=>by rw [hr.2 x,if_neg (by omega),if_pos (by omega)]
 have gB2 : ∀x,e≤x→d1[x]! = d[x]! := fun x hx=>by rw [hr.2 x,if_neg (by omega),if_neg (by omega)]
 refine⟨fun i j hi hij hj=> ?_,fun i j hi hij hj=> ?_,fun i j hi hij hj=> ?_,fun i j hi hij hj=> ?_,fun i j hi him hmj hj=> ?_⟩
 ·rw [gA1 i (by omega),gA1 j hj];exact h1 i j hi hij (by omega)
 ·rw [gB1 i hi (by omega),gB1 j (by omega) hj];exact h2 _ _ (by omega) (by omega) (by omega)
 ·rw [gA2 i hi (by omega),gA2 j (by omega) hj];exact h1 _ _ (by omega) (by omega) (by omega)
 ·rw [gB2 i hi,gB2 j (by omega)];exact h2 _ _ (by omega) (by omega) (by omega)
 ·by_cases hi1:i<s
  ·rw [gA1 i hi1]
   by_cases hj1:j<e
   ·rw [gA2 j hmj hj1];exact srt_le hS h1 hi (by omega) (by omega)
   ·rw [gB2 j (by omega)]
    rcases hlo with hlo | hlo | hlo
    ·omega
    ·omega
    ·exact hS.ntrans _ _ _ (srt_le hS h2 hme (by omega) hj) (hS.ntrans _ _ _ hlo (srt_le hS h1 hi (by omega) (by omega)))
  ·rw [gB1 i (by omega) him]
   by_cases hj1:j<e
   ·rw [gA2 j hmj hj1]
    rcases hhi with hhi | hhi | hhi
    ·omega
    ·omega
    ·exact hS.ntrans _ _ _ (srt_le hS h1 has (by omega) (by omega)) (hS.ntrans _ _ _ (SWO.asymmA hS hhi) (srt_le hS h2 (by omega) (by omega) (by omega)))
   ·rw [gB2 j (by omega)];exact srt_le hS h2 (by omega) (by omega) hj
theorem rot_first (hS:SWO lt) {d d1:Array α} {a e b:Nat} (h2:SortedIn lt (a+1) b d) (hme:a+1≤e) (heb:e≤b) (hr:RotOf d d1 a 1 (e - (a+1)))
  (hhi:e=a+1∨lt d[e - 1]! d[a]! = true) (hlo:e=b∨lt d[e]! d[a]! = false):SortedIn lt a b d1:=by
 obtain⟨_,p2,p3,p4,p5⟩:=rot_parts hS (a:=a) (s:=a) (sorted_one (d:=d)) h2 (Nat.le_refl _) (by omega) hme heb (by rwa [Nat.add_sub_cancel_left]) (.inl rfl) (.inr hhi)
 refine sorted_join p2 (sorted_join p3 p4 fun i j hi hie hj hjb=> ?_) p5
 have hi2:i=e - 1:=by omega
 subst hi2
 rw [hr.2 (e - 1),hr.2 j,if_neg (by omega),if_neg (by omega),if_neg (by omega),if_pos (by omega)]
 rcases hlo with hlo | hlo
 ·omega
 ·rw [get_at d (show e - 1 - (e - (a+1))=a by omega)]
  exact hS.ntrans _ _ _ (srt_le hS h2 hme (by omega) hjb) hlo
theorem rot_second (hS:SWO lt) {d d1:Array α} {a s m:Nat} (h1:SortedIn lt a m d) (has:a≤s) (hsm:s≤m) (hr:RotOf d d1 s (m - s) 1)
  (hlo:s=a∨lt d[m]! d[s - 1]! = false) (hhi:s=m∨lt d[m]! d[s]! = true):SortedIn lt a (m+1) d1:=by
 obtain⟨p1,p2,p3,_,p5⟩:=rot_parts hS (s:=s) (e:=m+1) (b:=m+1) h1 (sorted_one (d:=d)) has hsm (by omega) (Nat.le_refl _) (by rwa [Nat.add_sub_cancel_left]) (.inr (.inl rfl)) (hhi.elim .inl fun h=> .inr (.inr h))
 rw [Nat.add_sub_cancel_left]at p2 p3 p5
 refine sorted_join (sorted_join p1 p2 fun i j hi his hj hje=> ?_) p3 p5
 have hj2:j=s:=by omega
 subst hj2
 rw [hr.2 i,hr.2 j,if_pos (by omega),if_neg (by omega),if_neg (by omega)]
 rcases hlo with hlo | hlo
 ·omega
 ·rw [get_at d (show j+(m - j)=m by omega)]
  exact hS.ntrans _ _ _ hlo (srt_le hS h1 hi (by omega) (by omega))
theorem merge_end {d d1 d2 d3:Array α} {a mid b:Nat} (hb:b≤d.size) (ham:a≤mid) (hmb:mid≤b) (p0:PermIn a b d d1) (hc : ∀i j,a≤i→i<mid→mid≤j→j<b→lt d1[j]! d1[i]! = false)
  (p1:PermIn a mid d1 d2) (s1:SortedIn lt a mid d2) (p2:PermIn mid b d2 d3) (s2:SortedIn lt mid b d3):PermIn a b d d3∧SortedIn lt a b d3:=by
 have z1:=p0.1
 have z2:=p1.1
 have z3:=p2.1
 refine⟨permIn_trans _ _ _ _ _ (permIn_trans _ _ _ _ _ p0 (permIn_mono _ _ _ _ _ _ (Nat.le_refl _) hmb (by omega) p1)) (permIn_mono _ _ _ _ _ _ ham (Nat.le_refl _) (by omega) p2),?_⟩
 refine sorted_join (fun i j hi hij hj=> ?_) s2 fun i j hi him hmj hj=> ?_
 ·rw [p2.2.1 i (.inl (by omega)),p2.2.1 j (.inl hj)];exact s1 i j hi hij hj
 ·rw [p2.2.1 i (.inl him)]
  refine permIn_all d2 d3 mid b (fun y=>lt y d2[i]! = false) (by omega) p2 (fun y hy hyb=> ?_) j hmj hj
  rw [p1.2.1 y (.inr hy)]
  exact permIn_all d1 d2 a mid (fun x=>lt d1[y]! x=false) (by omega) p1 (fun x hx hxm=>hc x y hx hxm hy hyb) i hi him
theorem sorted_perm_out {d d':Array α} {a b x y:Nat} (p:PermIn a b d d') (h:SortedIn lt x y d) (ho:y≤a∨b≤x):SortedIn lt x y d':=fun i j hi hij hj=>by
 rw [p.2.1 i (by omega),p.2.1 j (by omega)];exact h i j hi hij hj
end
end Go.Proofs.YtkddkbpoefidpaaGreatDoor
namespace Go.Proofs.YtkddkbpoefidpaaGreatDoor
open Go.Sort
section
variable {α:Type} [Inhabited α] {lt:α→α→Bool}
def HeapTo (lt:α→α→Bool) (n:Nat) (d:Array α):Prop:= ∀k,0<k→k<n→lt d[k]! d[(k - 1) / 2]! = false
def UpInv (lt:α→α→Bool) (n:Nat) (d:Array α) (j:Nat):Prop :=
 (∀k,0<k→k<n→k≠j→lt d[k]! d[(k - 1) / 2]! = false)∧(0<j→ ∀k,0<k→k<n→(k - 1) / 2=j→lt d[k]! d[(j - 1) / 2]! = false)
theorem UpInv.start {n:Nat} {d:Array α} (h:HeapTo lt n d) {d':Array α} (hd : ∀k,k<n→d'[k]! = d[k]!):UpInv lt (n+1) d' n:=by
 refine⟨fun k h0 hk hkn=> ?_,fun h0 k hk0 hk hp=>by omega⟩
 rw [hd k (by omega),hd _ (by omega)]
 exact h k h0 (by omega)
theorem UpInv.stop {n j:Nat} {d:Array α} (h:UpInv lt n d j) (hj:j=0∨lt d[j]! d[(j - 1) / 2]! = false):HeapTo lt n d:=by
 intro k h0 hk
 by_cases e:k=j
 ·subst e
  rcases hj with hj | hj
  ·omega
  ·exact hj
 ·exact h.1 k h0 hk e
theorem UpInv.step (hS:SWO lt) {n j:Nat} {d:Array α} (h:UpInv lt n d j) (hjn:j<n) (hn:n≤d.size) (hj:0<j) (hl:lt d[j]! d[(j - 1) / 2]! = true):UpInv lt n (swp d ((j - 1) / 2) j) ((j - 1) / 2):=by
 have g:=fun k=>swp_get d (i:=(j - 1) / 2) (j:=j) (by omega) (by omega) k
 have hb:=SWO.asymmA hS hl
 refine⟨fun k h0 hk hkn=> ?_,fun hi0 k h0 hk hp=> ?_⟩
 ·by_cases e1:k=j
  ·subst e1
   rw [g k,g ((k - 1) / 2),if_pos rfl,if_neg (by omega),if_pos rfl]
   exact hb
  ·rw [g k,if_neg e1,if_neg hkn,g ((k - 1) / 2)]
   by_cases e2:(k - 1) / 2=j
   ·rw [if_pos e2];exact h.2 hj k h0 hk e2
   ·rw [if_neg e2]
    have h1:=h.1 k h0 hk e1
    by_cases e3:(k - 1) / 2=(j - 1) / 2
    ·rw [if_pos e3]
     rw [e3]at h1
     exact hS.ntrans _ _ _ h1 hb
    ·rw [if_neg e3];exact h1
 ·have h1:=h.1 ((j - 1) / 2) hi0 (by omega) (by omega)
  rw [g k,g (((j - 1) / 2 - 1) / 2),if_neg (show ((j - 1) / 2 - 1) / 2≠j by omega),if_neg (show ((j - 1) / 2 - 1) / 2≠(j - 1) / 2 by omega)]
  by_cases e1:k=j
  ·rw [if_pos e1];exact h1
  ·rw [if_neg e1,if_neg (show k≠(j - 1) / 2 by omega)]
   have h2:=h.1 k h0 hk e1
   rw [hp]at h2
   exact hS.ntrans _ _ _ h2 h1
def DownInv (lt:α→α→Bool) (n:Nat) (d:Array α) (i:Nat):Prop :=
 (∀k,0<k→k<n→(k - 1) / 2≠i→lt d[k]! d[(k - 1) / 2]! = false)∧(0<i→ ∀k,0<k→k<n→(k - 1) / 2=i→lt d[k]! d[(i - 1) / 2]! = false)
theorem DownInv.start {n:Nat} {d:Array α} (h:HeapTo lt (n+1) d) (hn:n<d.size):DownInv lt n (swp d 0 n) 0:=by
 have g:=fun k=>swp_get d (i:=0) (j:=n) (by omega) hn k
 refine⟨fun k h0 hk hp=> ?_,fun h0=>by omega⟩
 rw [g k,g ((k - 1) / 2),if_neg (by omega),if_neg (by omega),if_neg (by omega),if_neg hp]
 exact h k h0 (by omega)
theorem DownInv.leaf {n i:Nat} {d:Array α} (h:DownInv lt n d i) (hi:n≤2*i+1):HeapTo lt n d:=fun k h0 hk=>h.1 k h0 hk (by omega)
def Small (lt:α→α→Bool) (n:Nat) (d:Array α) (i j:Nat):Prop:=(j=2*i+1∨j=2*i+2)∧j<n∧ ∀k,k<n→(k=2*i+1∨k=2*i+2)→lt d[k]! d[j]! = false
theorem DownInv.stop (hS:SWO lt) {n i j:Nat} {d:Array α} (h:DownInv lt n d i) (hj:Small lt n d i j) (hl:lt d[j]! d[i]! = false):HeapTo lt n d:=by
 intro k h0 hk
 by_cases e:(k - 1) / 2=i
 ·rw [e]
  exact hS.ntrans _ _ _ (hj.2.2 k hk (by omega)) hl
 ·exact h.1 k h0 hk e
theorem DownInv.step (hS:SWO lt) {n i j:Nat} {d:Array α} (h:DownInv lt n d i) (hn:n≤d.size) (hj:Small lt n d i j) (hl:lt d[j]! d[i]! = true):DownInv lt n (swp d i j) j:=by
 obtain⟨h1,h2,h3⟩:=hj
 have g:=fun k=>swp_get d (i:=i) (j:=j) (by omega) (by omega) k
 have hb:=SWO.asymmA hS hl
 refine⟨fun k h0 hk hp=> ?_,fun hj0 k h0 hk hp=> ?_⟩
 ·rw [g k,g ((k - 1) / 2),if_neg hp]
  by_cases e1:k=j
  ·rw [if_pos e1,if_pos (show (k - 1) / 2=i by omega)]
   exact hb
  ·rw [if_neg e1]
   by_cases e2:k=i
   ·rw [if_pos e2,if_neg (show (k - 1) / 2≠i by omega),e2]
    exact h.2 (by omega) j (by omega) h2 (by omega)
   ·rw [if_neg e2]
    by_cases e3:(k - 1) / 2=i
    ·rw [if_pos e3];exact h3 k hk (by omega)
    ·rw [if_neg e3];exact h.1 k h0 hk e3
 ·rw [g k,g ((j - 1) / 2),if_neg (show k≠j by omega),if_neg (show k≠i by omega),if_neg (show (j - 1) / 2≠j by omega),if_pos (show (j - 1) / 2=i by omega)]
  have h4:=h.1 k h0 hk (by omega)
  rwa [hp]at h4
theorem HeapTo.root (hS:SWO lt) {n:Nat} {d:Array α} (h:HeapTo lt n d) (k:Nat) (hk:k<n):lt d[k]! d[0]! = false:=by
 induction k using Nat.strongRecOn with
 |_ k ih =>
  by_cases h0:k=0
  ·subst h0;exact hS.irrefl _
  ·exact hS.ntrans _ _ _ (h k (by omega) hk) (ih _ (by omega) (by omega))
theorem HeapTo.sub {n m:Nat} {d d':Array α} (h:HeapTo lt n d) (hm:m≤n) (hd : ∀k,k<m→d'[k]! = d[k]!):HeapTo lt m d':=fun k h0 hk=>by
 rw [hd k hk,hd _ (by omega)];exact h k h0 (by omega)
end
end Go.Proofs.YtkddkbpoefidpaaGreatDoor
namespace Go.Proofs.YtkddkbpoefidpaaGreatDoor
open Go.RowKit Go.Shelf Go.Sort
def allPairs {α β:Type} (f:α→α→List β):List α→List β
 |[]=> []
 |x::l=>l.flatMap (f x)++allPairs f l
theorem allPairs_perm {α β:Type} {f:α→α→List β} (hf : ∀x y,f x y=f y x) {l l':List α} (h:l.Perm l'):(allPairs f l).Perm (allPairs f l'):=by
 induction h with
 |nil=>exact .refl _
 |cons x h ih=>exact(h.flatMap_right _).append ih
 |swap x y l =>
  simp only [allPairs,List.flatMap_cons,hf y x,List.append_assoc]
  exact List.Perm.append_left _ (List.perm_append_comm_assoc _ _ _)
 |trans _ _ h1 h2=>exact h1.trans h2
theorem allPairs_snoc {α β:Type} (f:α→α→List β) (l:List α) (s:α):(allPairs f (l ++ [s])).Perm (allPairs f l++l.flatMap fun o=>f o s):=by
 induction l with
 |nil=>simp [allPairs]
 |cons x l ih =>
  simp only [List.cons_append,allPairs,List.flatMap_append,List.flatMap_cons,List.flatMap_nil,List.append_nil]
  refine(List.Perm.append_left _ ih).trans ?_
  simp only [List.append_assoc]
  exact List.Perm.append_left _ (List.perm_append_comm_assoc _ _ _)
theorem allPairs_two {α β:Type} (f:α→α→List β) (x y:List α) (hx : ∀a∈x,∀b∈x,f a b = []) (hy : ∀a∈y,∀b∈y,f a b = []):allPairs f (x++y)=x.flatMap fun a=>y.flatMap (f a):=by
 have nil : ∀(a:α) (l:List α),(∀b∈l,f a b = [])→l.flatMap (f a) = []:=fun a l h=>by
  rw [List.flatMap_eq_nil_iff];exact h
 induction x with
 |nil =>
  simp only [List.nil_append,List.flatMap_nil]
  induction y with
  |nil=>rfl
  |cons b y ih =>
   simp only [allPairs]
   rw [nil b y fun c hc=>hy b (by simp) c (by simp [hc]),ih fun a ha c hc=>hy a (by simp [ha]) c (by simp [hc])]
   rfl
 |cons a x ih =>
  simp only [List.cons_append,allPairs,List.flatMap_append,List.flatMap_cons]
  rw [nil a x fun c hc=>hx a (by simp) c (by simp [hc]),ih fun b hb c hc=>hx b (by simp [hb]) c (by simp [hc])]
  rfl
structure Ev where
 side:Bool
 idx:Nat
 from_:Int
 to_:Int
structure Pair where
 a:Nat
 b:Nat
 from_:Int
 to_:Int
def mkPair (o s:Ev):Pair:=⟨if o.side then s.idx else o.idx,if o.side then o.idx else s.idx,max o.from_ s.from_,min o.to_ s.to_⟩
def validB (a b:Int):Bool:=decide (0≤a)&&decide (a<b)&&decide (b≤1099511627776)
def okEv (e:Ev):Bool:=validB e.from_ e.to_
theorem validB_lt {a b:Int} (h:validB a b=true):0≤a∧a<b∧b≤1099511627776:=by simpa [validB,and_assoc] using h
def meet (o s:Ev):List Pair:=if o.side≠s.side∧okEv o=true∧okEv s=true∧max o.from_ s.from_<min o.to_ s.to_ then [mkPair o s]else []
theorem meet_comm (o s:Ev):meet o s=meet s o:=by
 obtain⟨os,oi,o1,o2⟩:=o
 obtain⟨ss,si,s1,s2⟩:=s
 have h1:max o1 s1=max s1 o1:=by omega
 have h2:min o2 s2=min s2 o2:=by omega
 cases os <;> cases ss <;> simp [meet,mkPair,h1,h2,and_left_comm]
theorem meet_same {o s:Ev} (h:o.side=s.side):meet o s = []:=if_neg fun k=>k.1 h
theorem meet_bad {o s:Ev} (h:okEv o=false∨okEv s=false):meet o s = []:=if_neg fun k=>by
 rcases h with h | h
 ·rw [h]at k;exact Bool.noConfusion k.2.1
 ·rw [h]at k;exact Bool.noConfusion k.2.2.1
theorem meet_block (l:List Ev) (s:Ev) (h : ∀o∈l,o.from_≤s.from_) (hok : ∀o∈l,okEv o=true) (hs:okEv s=true) :
  (l.flatMap fun o=>meet o s)=(l.filter fun o=>(o.side == !s.side)&&decide (s.from_<o.to_)).map fun o=>mkPair o s:=by
 induction l with
 |nil=>rfl
 |cons o l ih =>
  rw [List.flatMap_cons,List.filter_cons,ih (fun x hx=>h x (by simp [hx])) fun x hx=>hok x (by simp [hx])]
  have ho:=h o (by simp)
  have hk:=hok o (by simp)
  have e:(o.side≠s.side∧okEv o=true∧okEv s=true∧max o.from_ s.from_<min o.to_ s.to_)↔((o.side == !s.side)&&decide (s.from_<o.to_))=true:=by
   have hv:=validB_lt hs
   have hm:max o.from_ s.from_<min o.to_ s.to_↔s.from_<o.to_:=by omega
   rw [hm]
   cases o.side <;> cases s.side <;> simp [hk,hs]
  unfold meet
  by_cases hc:o.side≠s.side∧okEv o=true∧okEv s=true∧max o.from_ s.from_<min o.to_ s.to_
  ·rw [if_pos hc,if_pos (e.1 hc)];rfl
  ·rw [if_neg hc,if_neg fun k=>hc (e.2 k)];rfl
def evs (c:Bool):Nat→List Tup→List Ev
 |_,[]=> []
 |i,t::l=>⟨c,i,t.from_,t.to_⟩::evs c (i+1) l
def starts (c:Bool) (l:List Tup):List Ev:=(evs c 0 l).filter okEv
theorem evs_append (c:Bool) (i:Nat) (x y:List Tup):evs c i (x++y)=evs c i x++evs c (i+x.length) y:=by
 induction x generalizing i with
 |nil=>rfl
 |cons t x ih=>simp only [List.cons_append,evs,ih,List.length_cons];rw [show i+1+x.length=i+(x.length+1)by omega]
theorem evs_length (c:Bool) (i:Nat) (l:List Tup):(evs c i l).length=l.length:=by
 induction l generalizing i with
 |nil=>rfl
 |cons t l ih=>simp [evs,ih]
theorem evs_mem {c:Bool} {i:Nat} {l:List Tup} {e:Ev} (h:e∈evs c i l):e.side=c∧i≤e.idx∧ ∃t,l[e.idx - i]?=some t∧e.from_=t.from_∧e.to_=t.to_:=by
 induction l generalizing i with
 |nil=>simp [evs]at h
 |cons t l ih =>
  rcases List.mem_cons.1 h with rfl | h
  ·exact⟨rfl,Nat.le_refl _,t,by simp,rfl,rfl⟩
  ·obtain⟨h1,h2,u,h3,h4⟩:=ih h
   refine⟨h1,by omega,u,?_,h4⟩
   rw [show e.idx - i=(e.idx - (i+1))+1 by omega,List.getElem?_cons_succ]
   exact h3
theorem starts_mem {c:Bool} {l:List Tup} {e:Ev} (h:e∈starts c l):e.side=c∧okEv e=true∧ ∃t,l[e.idx]?=some t∧e.from_=t.from_∧e.to_=t.to_:=by
 obtain⟨h1,h2⟩:=List.mem_filter.1 h
 obtain⟨h3,_,t,h4,h5⟩:=evs_mem h1
 exact⟨h3,h2,t,h4,h5⟩
theorem starts_take (c:Bool) (l:List Tup) (k:Nat) (h:k<l.length) :
  starts c (l.take (k+1))=starts c (l.take k)++if validB l[k].from_ l[k].to_=true then [⟨c,k,l[k].from_,l[k].to_⟩]else []:=by
 unfold starts
 rw [List.take_succ_eq_append_getElem h,evs_append,List.filter_append]
 congr 1
 simp only [evs,List.length_take,List.filter_cons,List.filter_nil,okEv]
 rw [show 0+min k l.length=k by omega]
 by_cases hv:validB l[k].from_ l[k].to_=true
 ·simp only [hv,if_true]
 ·simp only [hv]
theorem starts_len (c:Bool) (l:List Tup):(starts c l).length≤l.length:=by
 rw [←evs_length c 0 l];exact List.length_filter_le _ _
def rawPairs (a b:List Tup):List Pair:=(evs false 0 a).flatMap fun x=>(evs true 0 b).flatMap (meet x)
theorem flatMap_filter {α β:Type} (p:α→Bool) (f:α→List β) (l:List α) (h : ∀x∈l,p x=false→f x = []):(l.filter p).flatMap f=l.flatMap f:=by
 induction l with
 |nil=>rfl
 |cons x l ih =>
  have ih':=ih fun y hy=>h y (by simp [hy])
  rw [List.filter_cons,List.flatMap_cons]
  by_cases hp:p x=true
  ·rw [if_pos hp,List.flatMap_cons,ih']
  ·rw [if_neg hp,ih',h x (by simp) (by simpa using hp)]
   rfl
theorem rawPairs_eq (a b:List Tup):allPairs meet (starts false a++starts true b)=rawPairs a b:=by
 rw [allPairs_two]
 ·unfold starts rawPairs
  rw [flatMap_filter okEv _ _ fun x _ hx=> ?_]
  ·congr 1
   funext x
   exact flatMap_filter okEv _ _ fun y _ hy=>meet_bad (.inr hy)
  ·rw [List.flatMap_eq_nil_iff]
   exact fun y _=>meet_bad (.inl hx)
 ·exact fun x hx y hy=>meet_same ((starts_mem hx).1.trans (starts_mem hy).1.symm)
 ·exact fun x hx y hy=>meet_same ((starts_mem hx).1.trans (starts_mem hy).1.symm)
theorem sweep_raw {a b:List Tup} {E:List Ev} (h:E.Perm (starts false a++starts true b)):(allPairs meet E).Perm (rawPairs a b):=by
 rw [←rawPairs_eq];exact allPairs_perm meet_comm h
def cmpPair (x y:Pair):Int:=if cmpI x.from_ y.from_=0 then(if cmpI x.a y.a=0 then cmpI x.b y.b else cmpI x.a y.a)else cmpI x.from_ y.from_
def cmpPair4 (x y:Pair):Int:=if cmpI x.from_ y.from_=0 then(if cmpI x.a y.a=0 then(if cmpI x.b y.b=0 then cmpI x.to_ y.to_ else cmpI x.b y.b)else cmpI x.a y.a)else cmpI x.from_ y.from_
theorem ord_I2:Ord3 fun x y:Int×Int=>if cmpI x.1 y.1=0 then cmpI x.2 y.2 else cmpI x.1 y.1:=ord_then ord_int ord_int Prod.fst Prod.snd fun _ _ h1 h2=>Prod.ext h1 h2
theorem ord_I3:Ord3 fun x y:Int×Int×Int=>if cmpI x.1 y.1=0 then(if cmpI x.2.1 y.2.1=0 then cmpI x.2.2 y.2.2 else cmpI x.2.1 y.2.1)else cmpI x.1 y.1 :=
 ord_then ord_int ord_I2 Prod.fst Prod.snd fun _ _ h1 h2=>Prod.ext h1 h2
theorem ord_I4:Ord3 fun x y:Int×Int×Int×Int=>if cmpI x.1 y.1=0 then(if cmpI x.2.1 y.2.1=0 then(if cmpI x.2.2.1 y.2.2.1=0 then cmpI x.2.2.2 y.2.2.2 else cmpI x.2.2.1 y.2.2.1)else cmpI x.2.1 y.2.1)else cmpI x.1 y.1 :=
 ord_then ord_int ord_I3 Prod.fst Prod.snd fun _ _ h1 h2=>Prod.ext h1 h2
theorem ord_pair4:Ord3 cmpPair4:=ord_pull ord_I4 (fun x:Pair=>(x.from_,(x.a:Int),(x.b:Int),x.to_)) fun x y h=>by
 obtain⟨xa,xb,xf,xt⟩:=x
 obtain⟨ya,yb,yf,yt⟩:=y
 simp only [Prod.mk.injEq]at h
 simp only [Pair.mk.injEq]
 omega
theorem swo_pair:Go.Sort.SWO (ltOf cmpPair):=swo_pull ord_I3.swo fun x:Pair=>(x.from_,(x.a:Int),(x.b:Int))
def Keyed (l:List Pair):Prop:= ∀x∈l,∀y∈l,x.a=y.a→x.b=y.b→x=y
theorem rawPairs_mem {a b:List Tup} {p:Pair} (h:p∈rawPairs a b) : ∃x y,a[p.a]?=some x∧b[p.b]?=some y∧p.from_=max x.from_ y.from_∧p.to_=min x.to_ y.to_∧p.from_<p.to_∧validB x.from_ x.to_=true∧validB y.from_ y.to_=true:=by
 unfold rawPairs at h
 obtain⟨x,hx,h⟩:=List.mem_flatMap.1 h
 obtain⟨y,hy,h⟩:=List.mem_flatMap.1 h
 obtain⟨sx,_,t,h1,h2,h3⟩:=evs_mem hx
 obtain⟨sy,_,u,h4,h5,h6⟩:=evs_mem hy
 unfold meet at h
 split at h
 ·rename_i hm
  rw [List.mem_singleton]at h
  subst h
  simp only [mkPair,sx,Bool.false_eq_true,if_false]
  exact⟨t,u,h1,h4,by rw [h2,h5],by rw [h3,h6],hm.2.2.2,by rw [←h2,←h3];exact hm.2.1,by rw [←h5,←h6];exact hm.2.2.1⟩
 ·simp at h
theorem rawPairs_keyed (a b:List Tup):Keyed (rawPairs a b):=by
 intro p hp q hq h1 h2
 obtain⟨x,y,e1,e2,e3,e4,_⟩:=rawPairs_mem hp
 obtain⟨x',y',f1,f2,f3,f4,_⟩:=rawPairs_mem hq
 rw [h1,f1]at e1
 rw [h2,f2]at e2
 injection e1 with e1
 injection e2 with e2
 obtain⟨pa,pb,pf,pt⟩:=p
 obtain⟨qa,qb,qf,qt⟩:=q
 simp only at *
 rw [h1,h2,e3,e4,f3,f4,e1,e2]
def pairsOf (a b:List Tup):List Pair:=sortBy cmpPair4 (rawPairs a b)
theorem pairs_unique {a b:List Tup} {l:List Pair} (hp:l.Perm (rawPairs a b)) (hs:l.Pairwise fun x y=> ¬cmpPair y x<0):l=pairsOf a b:=by
 refine sortBy_unique ord_pair4 hp (hs.imp_of_mem fun {x y} hx hy h=> ?_)
 have hk:=rawPairs_keyed a b x (hp.mem_iff.1 hx) y (hp.mem_iff.1 hy)
 by_cases e:cmpPair x y=0
 ·have h1:x.a=y.a∧x.b=y.b:=by
   unfold cmpPair cmpI at e
   (repeat' split at e) <;> omega
  rw [hk h1.1 h1.2,(ord_pair4.eq y y).2 rfl]
  exact Int.le_refl _
 ·unfold cmpPair cmpI at h e
  unfold cmpPair4 cmpI
  (repeat' split) <;> omega
def Queued (q P:List Ev) (c:Bool):Prop:= ∀x,(∀e∈P,e.from_≤x)→(q.filter fun e=>decide (x<e.to_)).Perm (P.filter fun e=>(e.side==c)&&decide (x<e.to_))
theorem Queued.nil (c:Bool):Queued [] [] c:=fun _ _=> .refl _
theorem Queued.expire {q q' P:List Ev} {c:Bool} {x:Int} (h:Queued q P c) (hx : ∀e∈P,e.from_≤x) (hq:q'.Perm (q.filter fun e=>decide (x<e.to_))) (s:Ev) (hs:s.from_=x) (hc:s.side = !c) :
  q'.Perm (P.filter fun e=>(e.side==c)&&decide (x<e.to_))∧Queued q' (P ++ [s]) c:=by
 refine⟨hq.trans (h x hx),fun z hz=> ?_⟩
 have hxz:x≤z:=by rw [←hs];exact hz s (by simp)
 refine(hq.filter _).trans ?_
 rw [List.filter_filter,List.filter_append]
 have e:(q.filter fun e=>decide (z<e.to_)&&decide (x<e.to_))=q.filter fun e=>decide (z<e.to_):=by
  congr 1
  funext e
  by_cases h1:z<e.to_
  ·simp [h1,show x<e.to_ by omega]
  ·simp [h1]
 rw [e]
 have h2:([s].filter fun e=>(e.side==c)&&decide (z<e.to_)) = []:=by
  rw [List.filter_cons,hc]
  cases c <;> simp
 rw [h2,List.append_nil]
 exact h z fun e he=>hz e (by simp [he])
theorem Queued.push {q q' P:List Ev} {c:Bool} {s:Ev} (h:Queued q P c) (hq:q'.Perm (s::q)) (hc:s.side=c):Queued q' (P ++ [s]) c:=by
 intro z hz
 refine(hq.filter _).trans ?_
 rw [List.filter_append,List.filter_cons,List.filter_cons,List.filter_nil,hc]
 have h1:=h z fun e he=>hz e (by simp [he])
 by_cases h2:z<s.to_
 ·simp only [h2,decide_true,if_true,beq_self_eq_true,Bool.and_self]
  exact(List.Perm.cons s h1).trans (by simpa using List.perm_append_comm (l₁:= [s]) (l₂:=P.filter fun e=>(e.side==c)&&decide (z<e.to_)))
 ·simp only [h2,decide_false,Bool.and_false,Bool.false_eq_true,if_false,List.append_nil]
  exact h1
end Go.Proofs.YtkddkbpoefidpaaGreatDoor
namespace Go.Proofs.YtkddkbpoefidpaaGreatDoor
open Go.RowKit
theorem evs_get {c:Bool} {l:List Tup} : ∀ {i k:Nat} {t:Tup},l[k]?=some t→(⟨c,i+k,t.from_,t.to_⟩:Ev)∈evs c i l:=by
 induction l with
 |nil=>intro i k t h;simp at h
 |cons x l ih =>
  intro i k t h
  cases k with
  |zero=>simp at h;subst h;simp [evs]
  |succ k =>
   have:=ih (i:=i+1) (k:=k) (t:=t) (by simpa using h)
   rw [show i+1+k=i+(k+1)by omega]at this
   simp [evs,this]
theorem rawPairs_iff {a b:List Tup} {p:Pair}:p∈rawPairs a b↔ ∃x y,a[p.a]?=some x∧b[p.b]?=some y∧p.from_=max x.from_ y.from_∧p.to_=min x.to_ y.to_∧p.from_<p.to_∧validB x.from_ x.to_=true∧validB y.from_ y.to_=true:=by
 refine⟨rawPairs_mem,?_⟩
 rintro⟨x,y,h1,h2,h3,h4,h5,h6,h7⟩
 obtain⟨pa,pb,pf,pt⟩:=p
 simp only at *
 unfold rawPairs
 refine List.mem_flatMap.2 ⟨⟨false,pa,x.from_,x.to_⟩,by have:=evs_get (c:=false) (i:=0) h1;rwa [Nat.zero_add]at this,List.mem_flatMap.2 ⟨⟨true,pb,y.from_,y.to_⟩,by have:=evs_get (c:=true) (i:=0) h2;rwa [Nat.zero_add]at this,?_⟩⟩
 unfold meet
 rw [if_pos ⟨by simp,h6,h7,by simp only;omega⟩]
 simp [mkPair,h3,h4]
def swP (p:Pair):Pair:=⟨p.b,p.a,p.from_,p.to_⟩
theorem pairsOf_perm (a b:List Tup):(pairsOf a b).Perm (rawPairs a b):=sortBy_perm _ _
def isSw (s t:Pair):Bool:=decide (t.a=s.b)&&decide (t.b=s.a)&&decide (t.from_=s.from_∧t.to_=s.to_)
theorem pairs_len (a b:List Tup):(pairsOf a b).length≤a.length*b.length:=by
 rw [(pairsOf_perm a b).length_eq]
 unfold rawPairs
 have h1 : ∀x:Ev,((evs true 0 b).flatMap (meet x)).length≤b.length:=fun x=>by
  have h2 : ∀(l:List Ev),(l.flatMap (meet x)).length≤l.length:=fun l=>by
   induction l with
   |nil=>simp
   |cons y l ih =>
    rw [List.flatMap_cons,List.length_append,List.length_cons]
    have:(meet x y).length≤1:=by unfold meet;split <;> simp
    omega
  have:=h2 (evs true 0 b)
  rwa [evs_length]at this
 have h3 : ∀(l:List Ev),(l.flatMap fun x=>(evs true 0 b).flatMap (meet x)).length≤l.length*b.length:=fun l=>by
  induction l with
  |nil=>simp
  |cons y l ih =>
   rw [List.flatMap_cons,List.length_append,List.length_cons,Nat.succ_mul]
   have:=h1 y
   omega
 have:=h3 (evs false 0 a)
 rwa [evs_length]at this
end Go.Proofs.YtkddkbpoefidpaaGreatDoor
namespace Go.Proofs.YtkddkbpoefidpaaGreatDoor
open Go.RowKit
structure DoneAt (a b:List Tup) (i k:Nat) (out:List Pair):Prop where
 nd:out.Nodup
 mem : ∀p,p∈out↔p∈rawPairs a b∧(p.a<i∨p.a=i∧p.b<k)
 srt:out.Pairwise fun x y=> ¬cmpPair y x<0
theorem raw_at {a b:List Tup} {p:Pair} (h:p∈rawPairs a b):p.a<a.length∧p.b<b.length:=by
 obtain⟨x,y,h1,h2,_⟩:=rawPairs_iff.1 h
 exact⟨(List.getElem?_eq_some_iff.1 h1).1,(List.getElem?_eq_some_iff.1 h2).1⟩
end Go.Proofs.YtkddkbpoefidpaaGreatDoor
