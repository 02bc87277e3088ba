/- joined texts of a proof: CovR, RefN, PlainO, SortedV, SplitW, PlainB -/
import Derived.Test.YtkddkbpoefidpaaGreatDoorKG17
import Derived.Test.YtkddkbpoefidpaaGreatDoorKG14
import Derived.RangeFuncBox
import Derived.RangeFuncLeaves
import Derived.Shelf.Abstract
import Derived.WalkKit
import Derived.OwnWalkIn
import Derived.TacticsInMore
import Derived.LoopNIn
import Derived.LoopIn
import Derived.Maps.AppendAt
import Derived.Test.YtkddkbpoefidpaaGreatDoorKG03
import Derived.Test.YtkddkbpoefidpaaGreatDoorKG04
import Derived.Test.YtkddkbpoefidpaaGreatDoorKG06
import Derived.Test.YtkddkbpoefidpaaGreatDoorKG07
import Derived.Test.YtkddkbpoefidpaaGreatDoorKG13
import Derived.Deep.DeepCutAuto
namespace Go.Proofs.YtkddkbpoefidpaaGreatDoor
open Go.RowKit
theorem ins_step {s:List Per} {p:Per} {i:Nat} (h:i<s.length) (ht:s[i].to_<p.from_):insPer (s.drop i) p=s[i]::insPer (s.drop (i+1)) p:=by
 rw [List.drop_eq_getElem_cons h,insPer,if_pos ht]
theorem ins_stop {s:List Per} {p:Per} {i:Nat} (h : ∀hi:i<s.length,¬s[i].to_<p.from_):insPer (s.drop i) p=(absorb (s.drop i) p).1::(absorb (s.drop i) p).2:=by
 by_cases hi:i<s.length
 ·rw [List.drop_eq_getElem_cons hi,insPer,if_neg (h hi)]
 ·rw [List.drop_eq_nil_of_le (by omega)];rfl
theorem abs_step {s:List Per} {f t:Int} {i:Nat} (h:i<s.length) (ht:s[i].from_≤t):absorb (s.drop i) ⟨f,t⟩=absorb (s.drop (i+1)) ⟨min f s[i].from_,max t s[i].to_⟩:=by
 rw [List.drop_eq_getElem_cons h,absorb,if_pos ht]
theorem abs_stop {s:List Per} {p:Per} {i:Nat} (h : ∀hi:i<s.length,¬s[i].from_≤p.to_):absorb (s.drop i) p=(p,s.drop i):=by
 by_cases hi:i<s.length
 ·rw [List.drop_eq_getElem_cons hi,absorb,if_neg (h hi)]
 ·rw [List.drop_eq_nil_of_le (by omega)];rfl
theorem per_rest {h:View} {p:Option Addr} {cap:Nat} {s:List Per} (k:SliceOf Rep.per h (.slice p s.length cap) s) (j:Nat) (hj:j=s.length):SliceOf Rep.per h (.slice (if cap=j then p else Option.map (fun x=>x.add (j*2)) p) (s.length - j) (cap - j)) (s.drop j):=by
 obtain⟨css,_,h2⟩:=k
 subst hj
 rw [Nat.sub_self,List.drop_length]
 refine⟨[],trivial,?_⟩
 rcases h2 with ⟨e,_⟩ | ⟨ad,c,e,h3,h4,_⟩
 ·injection e with e1 e2 e3
  subst e1
  rw [e2,e3]
  exact .inl ⟨rfl,rfl,rfl⟩
 ·injection e with e1 e2 e3
  subst e1 e3
  by_cases hc:cap=s.length
  ·rw [if_pos hc]
   exact .inr ⟨ad,_,rfl,Nat.zero_le _,by omega,.inl rfl⟩
  ·rw [if_neg hc]
   exact .inr ⟨_,_,rfl,Nat.zero_le _,by omega,.inl rfl⟩
theorem add_slot (b o m:Nat):Option.map (fun x:Addr=>x.add m) (some ⟨b,o,none⟩)=some ⟨b,o+m,none⟩:=by
 by_cases h:m=0 <;> simp [Addr.add,h]
theorem box_two {wr:World} {E:Nat} {a b:Value} (h:wr.cell? ⟨E,0,none⟩=some a∧wr.cell? ⟨E,1,none⟩=some b∧wr.frozen? ⟨E,0,none⟩=false∧wr.frozen? ⟨E,1,none⟩=false) (x y:Value) :
  (((wr.setCell ⟨E,0,none⟩ x).setCell ⟨E,1,none⟩ y).cell? ⟨E,0,none⟩=some x∧((wr.setCell ⟨E,0,none⟩ x).setCell ⟨E,1,none⟩ y).cell? ⟨E,1,none⟩=some y∧((wr.setCell ⟨E,0,none⟩ x).setCell ⟨E,1,none⟩ y).frozen? ⟨E,0,none⟩=false∧((wr.setCell ⟨E,0,none⟩ x).setCell ⟨E,1,none⟩ y).frozen? ⟨E,1,none⟩=false) ∧
    Chg (fun k=>k=E) wr ((wr.setCell ⟨E,0,none⟩ x).setCell ⟨E,1,none⟩ y):=by
 obtain⟨h0,h1,h2,h3⟩:=h
 have g0:(wr.setCell ⟨E,0,none⟩ x).cell? ⟨E,0,none⟩=some x:=World.cell?_setCell_same' _ _ _ (by rw [h0];rfl)
 have g1:(wr.setCell ⟨E,0,none⟩ x).cell? ⟨E,1,none⟩=some b:=by rw [World.cell?_setCell_other _ _ _ _ (by simp)];exact h1
 refine⟨⟨?_,?_,?_,?_⟩,((Chg.refl (fun k=>k=E) wr).setCell (.inl rfl) _).setCell (.inl rfl) _⟩
 ·rw [World.cell?_setCell_other _ _ _ _ (by simp)];exact g0
 ·exact World.cell?_setCell_same' _ _ _ (by rw [g1];rfl)
 ·rw [World.frozen?_setCell,World.frozen?_setCell];exact h2
 ·rw [World.frozen?_setCell,World.frozen?_setCell];exact h3
theorem okI_minmax {a b c d:Int} (h:okI a∧okI b) (k:okI c∧okI d):okI (min a c)∧okI (max b d):=by
 unfold okI at *
 omega
set_option maxRecDepth 100000 in
set_option maxHeartbeats 8000000 in
theorem insert_any (v:Value) (s:List Per) (f t:Int) (w:World) (hv:SliceOf Rep.per w.cell? v s) (hft:okI f∧okI t) (hl:s.length≤1000) :
  Calls Tryz.prog 242 #[v,perV f t] w fun e w'=> ∃v',e = .returned v'∧SliceOf Rep.per (on w' (since w)) v' (insPer s ⟨f,t⟩)∧Ext w w':=by
 obtain⟨i0,hi,hz0,hz1,hz2⟩:=info_parts info_per
 have mixed:=mixedOrd
 have HV:=Lib.hid hv
 obtain⟨p,cap,rfl,hcl,hcm,hp⟩:=hv.form
 have HP:=Lib.hid hp
 have HC:=Lib.hid (show s.length≤cap∧cap≤maxLen from ⟨hcl,hcm⟩)
 obtain⟨n,hn⟩ : ∃n,n=s.length:=⟨_,rfl⟩
 rw [←hn]at HP HC ⊢
 have HN:=Lib.hid hn
 have hn5:n≤1000:=by omega
 have HFT:=Lib.hid hft
 clear hv hp hcl hcm hn hl hft
 go_enter Tryz.func242,Tryz.ntmps242
 go_wp2_with fail
 have X0:=Lib.hid ((Ext.refl w).alloc (.cells #[.int .i64 f,.int .i64 t] 94))
 have M0:=Lib.hid (show (w.alloc (.cells #[.int .i64 f,.int .i64 t] 94)).cell? ⟨w.heap.size,0,none⟩=some (.int .i64 f)∧(w.alloc (.cells #[.int .i64 f,.int .i64 t] 94)).cell? ⟨w.heap.size,1,none⟩=some (.int .i64 t)∧(w.alloc (.cells #[.int .i64 f,.int .i64 t] 94)).frozen? ⟨w.heap.size,0,none⟩=false∧(w.alloc (.cells #[.int .i64 f,.int .i64 t] 94)).frozen? ⟨w.heap.size,1,none⟩=false from ⟨by simp,by simp,by simp,by simp⟩)
 have Z0:=Lib.hid (show w.heap.size≤w.heap.size∧w.heap.size<(w.alloc (.cells #[.int .i64 f,.int .i64 t] 94)).heap.size from ⟨Nat.le_refl _,by simp⟩)
 generalize w.alloc (.cells #[.int .i64 f,.int .i64 t] 94)=w0 at X0 M0 Z0 ⊢
 obtain⟨E,hE⟩ : ∃E,E=w.heap.size:=⟨_,rfl⟩
 rw [←hE]at M0 ⊢
 have HE:=Lib.hid (show w.heap.size≤E∧E<w0.heap.size from by rw [hE];exact Z0.out)
 clear hE Z0
 go_loopg [5,6] n (fun gk vo vi wr=> ∃(i:Nat) (u:Value),i≤n∧gk=n - i∧vi = .int .i64 i∧u=vo∧Hid (OwnOf Rep.per wr (fun _=>True) w0.heap.size 94 u (s.take i))∧Hid (insPer s ⟨f,t⟩=s.take i++insPer (s.drop i) ⟨f,t⟩)∧Hid (Ext w0 wr))
 case atStart=>exact⟨0,_,by omega,rfl,rfl,rfl,OwnOf.nil _ _ _ _ _,by show _=_;simp,Ext.refl w0⟩
 case round =>
  obtain⟨i,u,hi',rfl,rfl,rfl,OO,INV,X1⟩:=hrel
  by_cases hin:i<n
  ·have hil:i<s.length:=by have:=HN.out;omega
   obtain⟨b,o,rfl⟩:=HP.out (by decide) (by omega)
   have hv:=HV.out
   rw [←HN.out]at hv
   obtain⟨c0,c1,r1,r2⟩:=per_at hv i hil
   replace c0:=(X0.out.trans X1.out).at c0
   replace c1:=(X0.out.trans X1.out).at c1
   obtain⟨q,hq⟩ : ∃q,q=s[i]:=⟨_,rfl⟩
   have hst:s.take (i+1)=s.take i ++ [q]:=by rw [List.take_succ_eq_append_getElem hil,←hq]
   rw [←hq]at c0 c1 r1 r2
   have HQ:=Lib.hid hq
   obtain⟨qf,qt⟩:=q
   dsimp only at c0 c1 r1 r2
   have HST:=Lib.hid hst
   have HR:=Lib.hid (And.intro r1 r2)
   have d0:=X1.out.at M0.out.1
   have e0:=cell_lt c0
   have e1:=cell_lt d0
   have hd:decide ((i:Int)<(n:Int))=true:=by simp;omega
   have hd1:(i:Int)<(n:Int):=by omega
   have hdn:decide (i<n)=true:=by simp;omega
   clear hst r1 r2 hv hq
   by_cases hqf:qt<f
   ·have hdq:decide (qt<f)=true:=by simp [hqf]
    have HIN:=Lib.hid (show insPer s ⟨f,t⟩=s.take (i+1)++insPer (s.drop (i+1)) ⟨f,t⟩from by
     rw [INV.out,ins_step hil (by rw [←HQ.out];exact hqf),HST.out,HQ.out,List.append_assoc];rfl)
    have hlen:(s.take i).length≤1000:=by simp only [List.length_take];omega
    have B1:(s.take i).length + [(⟨qf,qt⟩:Per)].length≤maxLen:=by simp only [List.length_singleton,maxLen];omega
    have B2:((s.take i).length + [(⟨qf,qt⟩:Per)].length)*16≤140737488355328:=by simp only [List.length_singleton];omega
    obtain⟨z,hz⟩ : ∃z,z=s.take i:=⟨_,rfl⟩
    rw [←hz]at OO B1 B2 HST
    clear hqf hlen hz
    go_wp2_with fail
    go_big_region_o
    go_wp2_with (at_builtin;refine wpList_append_all Rep.per (fun _=>True) rfl _ _ 129 rfl w0.heap.size 94 i0 _ 16 Tryz.underlying129 hi hz0 hz1 hz2 rfl (by decide) u z rfl (by exact OO.out.ext ((Ext.refl wr).alloc (.cells (perEnc ⟨qf,qt⟩).toArray 94)).drew) _ [⟨qf,qt⟩] rfl (by exact lone_flat (T:=94) (cs:=perEnc ⟨qf,qt⟩) flat_per ⟨rfl,HR.out⟩ OO.out) B1 B2 (by exact(X1.out.alloc (.cells (perEnc ⟨qf,qt⟩).toArray 94)).drew.size) ?_)
    intro v' w3 own gr _
    have hxx:=Lib.hid (Chg.below (chg_grown gr) (X1.out.alloc (.cells (perEnc ⟨qf,qt⟩).toArray 94)).drew fun b hb=>(OO.out.lt b hb).1)
    have OW2:=Lib.hid own
    clear own gr
    go_wp2_with fail
    go_roundg (n - (i+1))
    case measure=>omega
    case rel=>exact⟨i+1,v',by omega,rfl,by go_num,rfl,by show OwnOf _ _ _ _ _ _ _;rw [HST.out];exact OW2.out,HIN.out,hxx.out⟩
   ·have hdq:decide (qt<f)=false:=by simp [hqf]
    have HSTOP:=Lib.hid (show insPer (s.drop i) ⟨f,t⟩=(absorb (s.drop i) ⟨f,t⟩).1::(absorb (s.drop i) ⟨f,t⟩).2 from ins_stop fun h=>by rw [←HQ.out];exact hqf)
    have hil5:i≤1000:=by omega
    clear hqf
    go_wp2_with fail
    go_big_region_o
    have OO5:=Lib.hid (OO.out.ext (Ext.refl wr).drew)
    have X5:=Lib.hid X1.out.drew
    clear c0 c1 d0 e0 e1 hd hdq hin hd1 hdn OO X1 HR HST HQ
    generalize wr.drew=w5 at OO5 X5 ⊢
    have OKK:=Lib.hid (OO5.out.lt)
    go_wp2_with fail
    go_loopg [6] (n - i) (fun gk vi wr=> ∃(j:Nat) (f2 t2:Int),j≤n∧gk=n - j∧vi = .int .i64 j∧Hid (okI f2∧okI t2)∧Hid (absorb (s.drop i) ⟨f,t⟩=absorb (s.drop j) ⟨f2,t2⟩)∧Hid (wr.cell? ⟨E,0,none⟩=some (.int .i64 f2)∧wr.cell? ⟨E,1,none⟩=some (.int .i64 t2)∧wr.frozen? ⟨E,0,none⟩=false∧wr.frozen? ⟨E,1,none⟩=false)∧Hid (OwnOf Rep.per wr (fun _=>True) w0.heap.size 94 u (s.take i))∧Hid (Ext w wr)∧Hid (w0.heap.size≤wr.heap.size))
    case atStart=>exact⟨i,f,t,by omega,rfl,rfl,HFT.out,rfl,⟨X5.out.at M0.out.1,X5.out.at M0.out.2.1,X5.out.unfrozen M0.out.1 M0.out.2.2.1,X5.out.unfrozen M0.out.2.1 M0.out.2.2.2⟩,OO5.out,X0.out.trans X5.out,X5.out.size⟩
    case round =>
     clear OO5 X5 OKK
     obtain⟨j,f2,t2,hj,rfl,rfl,HF2,ABS,BOX,O6,X6,Z6⟩:=hrel
     have UE:=Lib.hid (show ∀k,u.ownBlock=some k→ ¬k=E from fun k hk e=>by have h1:=(O6.out.lt k hk).1;have h2:=HE.out.2;omega)
     by_cases hjn:j<n
     ·have hjl:j<s.length:=by have:=HN.out;omega
      have hv:=HV.out
      rw [←HN.out]at hv
      obtain⟨c0,c1,r1,r2⟩:=per_at hv j hjl
      have NE:=Lib.hid (show ¬b=E from fun e=>by have h1:=cell_lt c0;have h2:=HE.out.1;omega)
      replace c0:=X6.out.at c0
      replace c1:=X6.out.at c1
      obtain⟨q,hq⟩ : ∃q,q=s[j]:=⟨_,rfl⟩
      rw [←hq]at c0 c1 r1 r2
      have HQ:=Lib.hid hq
      obtain⟨qf,qt⟩:=q
      dsimp only at c0 c1 r1 r2
      have HR:=Lib.hid (And.intro r1 r2)
      have d0:=BOX.out.1
      have d1:=BOX.out.2.1
      have e0:=cell_lt c0
      have e1:=cell_lt d0
      have f0:=BOX.out.2.2.1
      have f1:=BOX.out.2.2.2
      have hd:decide ((j:Int)<(n:Int))=true:=by simp;omega
      have hd1:(j:Int)<(n:Int):=by omega
      have hdn:decide (j<n)=true:=by simp;omega
      have hne : ¬b=E:=NE.out
      have hne2 : ¬E=b:=fun e=>NE.out e.symm
      clear r1 r2 hv hq
      by_cases hqf:qf≤t2
      ·have hdq:decide (qf≤t2)=true:=by simp [hqf]
       have HAB:=Lib.hid (show absorb (s.drop i) ⟨f,t⟩=absorb (s.drop (j+1)) ⟨min f2 qf,max t2 qt⟩from by
         rw [ABS.out,abs_step hjl (by rw [←HQ.out];exact hqf),←HQ.out])
       clear hqf
       go_wp2_with fail
       go_big_region_o
       all_goals go_wp2_with fail
       all_goals go_big_region_o
       all_goals go_wp2_with fail
       all_goals go_big_region_o
       all_goals go_wp2_with fail
       all_goals go_roundg (n - (j+1))
       all_goals first
         | (case measure=>omega)
         | (case rel =>
             have hb2:=box_two BOX.out (.int .i64 (min f2 qf)) (.int .i64 (max t2 qt))
             exact⟨j+1,min f2 qf,max t2 qt,by omega,rfl,by go_num,okI_minmax HF2.out HR.out,HAB.out,hb2.1,(O6.out.chg flat_per hb2.2 UE.out).ext (Ext.refl _).drew.drew.drew,(Chg.below hb2.2 X6.out fun k hk=>by rw [hk];exact HE.out.1).drew.drew.drew,Nat.le_trans Z6.out hb2.2.size⟩)
      ·have hdq:decide (qf≤t2)=false:=by simp [hqf]
       have HAB:=Lib.hid (show absorb (s.drop i) ⟨f,t⟩=(⟨f2,t2⟩,s.drop j)from by
         rw [ABS.out,abs_stop fun h=>by rw [←HQ.out];exact hqf])
       have hcj:j≤cap:=by have:=HC.out.1;omega
       have hcj2 : ¬cap=j:=by have:=HC.out.1;omega
       have hcj3 : ¬(j:Int)=(cap:Int):=by omega
       have hcj4:(j:Int)≤(n:Int):=by omega
       clear hqf
       have HIS:=Lib.hid (show SliceOf Rep.per w.cell? (.slice (some ⟨b,o+j*2,none⟩) (n - j) (cap - j)) (s.drop j)from by have h:=SliceOf.dropV (by have h:=HV.out;rwa [←HN.out]at h) j (by omega);rwa [←HN.out]at h)
       go_wp2_with fail
       go_big_region_o
       clear hd hdn hd1 hdq hne hne2 c0 c1 d0 d1 e0 e1 f0 f1
       have HFIN:=Lib.hid (show insPer s ⟨f,t⟩=s.take i ++ [⟨f2,t2⟩]++s.drop j from by rw [INV.out,HSTOP.out,HAB.out,List.append_assoc];rfl)
       have O7:=Lib.hid (O6.out.ext (Ext.refl wr).drew)
       have X7:=Lib.hid (show Ext w wr.drew from X6.out.drew)
       have Z7:=Lib.hid (show w0.heap.size≤wr.drew.heap.size from Z6.out)
       have d0:wr.drew.cell? ⟨E,0,none⟩=some (.int .i64 f2):=BOX.out.1
       have d1:wr.drew.cell? ⟨E,1,none⟩=some (.int .i64 t2):=BOX.out.2.1
       have e1:=cell_lt d0
       have B1:(s.take i).length + [(⟨f2,t2⟩:Per)].length≤maxLen:=by simp only [List.length_singleton,List.length_take,maxLen];omega
       have B2:((s.take i).length + [(⟨f2,t2⟩:Per)].length)*16≤140737488355328:=by simp only [List.length_singleton,List.length_take];omega
       have B3:(s.take i ++ [(⟨f2,t2⟩:Per)]).length+(s.drop j).length≤maxLen:=by simp only [List.length_append,List.length_singleton,List.length_take,List.length_drop,maxLen];have:=HN.out;omega
       have B4:((s.take i ++ [(⟨f2,t2⟩:Per)]).length+(s.drop j).length)*16≤140737488355328:=by simp only [List.length_append,List.length_singleton,List.length_take,List.length_drop];have:=HN.out;omega
       clear HAB O6 X6 Z6 BOX
       generalize wr.drew=w7 at O7 X7 Z7 d0 d1 e1 ⊢
       go_wp2_with fail
       go_region_law (first
         | ((with_reducible refine key_op 67 ?_);(try simp only [Act.put,List.setIfInBounds_toArray,List.set_cons_zero,List.set_cons_succ]);refine step_append_all Rep.per (fun _=>True) rfl _ _ 129 rfl w0.heap.size 94 i0 _ 16 Tryz.underlying129 hi hz0 hz1 hz2 rfl (by decide) u (s.take i) rfl (by exact O7.out.ext ((Ext.refl w7).alloc (.cells (perEnc ⟨f2,t2⟩).toArray 94)).drew) _ [⟨f2,t2⟩] rfl (by exact lone_flat (T:=94) (cs:=perEnc ⟨f2,t2⟩) flat_per ⟨rfl,HF2.out⟩ O7.out) B1 B2 (by exact Nat.le_trans Z7.out ((Ext.refl w7).alloc (.cells (perEnc ⟨f2,t2⟩).toArray 94)).drew.size) ?_;intro v1 w1 own1 gr1 at1;have x1:Ext w w1:=Chg.below (chg_grown gr1) (X7.out.alloc (.cells (perEnc ⟨f2,t2⟩).toArray 94)).drew (fun b hb=>Nat.le_trans X0.out.size (O7.out.lt b hb).1);have z1:w0.heap.size≤w1.heap.size:=Nat.le_trans (Nat.le_trans Z7.out ((Ext.refl w7).alloc (.cells (perEnc ⟨f2,t2⟩).toArray 94)).drew.size) gr1.size)
         | ((with_reducible refine key_op 71 ?_);(try simp only [Act.put,List.setIfInBounds_toArray,List.set_cons_zero,List.set_cons_succ]);refine step_append_all Rep.per (fun _=>True) rfl _ _ 129 rfl w0.heap.size 94 i0 _ 16 Tryz.underlying129 hi hz0 hz1 hz2 rfl (by decide) v1 (s.take i ++ [(⟨f2,t2⟩:Per)]) rfl own1 _ (s.drop j) rfl (by exact HIS.out.away flat_per x1 (fun k h=>Nat.le_trans X0.out.size (own1.base k h))) B3 B4 z1 ?_;intro v2 w2 own2 gr2 at2;have x2:Ext w w2:=Chg.below (chg_grown gr2) x1 (fun b hb=>Nat.le_trans X0.out.size (own1.lt b hb).1)))
       all_goals
         have XF:=Lib.hid x2
         have OF:=Lib.hid own2
         clear own1 own2 gr1 gr2 at1 at2 x1 x2 z1
         go_wp2_with fail
         all_goals go_ret
         all_goals exact⟨_,rfl,by rw [HFIN.out];exact(OF.out.fresh flat_per).ext (on_mono _ fun q _ hq=>by have h1:=HE.out;exact Nat.le_trans (show w.heap.size≤w0.heap.size by omega) hq),XF.out⟩
     ·have HAB:=Lib.hid (show absorb (s.drop i) ⟨f,t⟩=(⟨f2,t2⟩,s.drop j)from by
       rw [ABS.out,abs_stop fun h=>by have:=HN.out;omega])
      have hd:decide ((j:Int)<(n:Int))=false:=by simp;omega
      have hdn:decide (j<n)=false:=by simp;omega
      have hd2 : ¬(j:Int)<(n:Int):=by omega
      have hcj:j≤cap:=by have:=HC.out.1;omega
      have HIS:=Lib.hid (show SliceOf Rep.per w.cell? (.slice (if cap=j then some (⟨b,o,none⟩:Addr)else some (⟨b,o+j*2,none⟩:Addr)) (n - j) (cap - j)) (s.drop j)from by rw [HN.out];have h:=per_rest HV.out j (by have:=HN.out;omega);rw [add_slot]at h;exact h)
      go_wp2_with fail
      go_big_region_o
      clear hd hdn hd2
      have HFIN:=Lib.hid (show insPer s ⟨f,t⟩=s.take i ++ [⟨f2,t2⟩]++s.drop j from by rw [INV.out,HSTOP.out,HAB.out,List.append_assoc];rfl)
      have O7:=Lib.hid (O6.out.ext (Ext.refl wr).drew)
      have X7:=Lib.hid (show Ext w wr.drew from X6.out.drew)
      have Z7:=Lib.hid (show w0.heap.size≤wr.drew.heap.size from Z6.out)
      have d0:wr.drew.cell? ⟨E,0,none⟩=some (.int .i64 f2):=BOX.out.1
      have d1:wr.drew.cell? ⟨E,1,none⟩=some (.int .i64 t2):=BOX.out.2.1
      have e1:=cell_lt d0
      have B1:(s.take i).length + [(⟨f2,t2⟩:Per)].length≤maxLen:=by simp only [List.length_singleton,List.length_take,maxLen];omega
      have B2:((s.take i).length + [(⟨f2,t2⟩:Per)].length)*16≤140737488355328:=by simp only [List.length_singleton,List.length_take];omega
      have B3:(s.take i ++ [(⟨f2,t2⟩:Per)]).length+(s.drop j).length≤maxLen:=by simp only [List.length_append,List.length_singleton,List.length_take,List.length_drop,maxLen];have:=HN.out;omega
      have B4:((s.take i ++ [(⟨f2,t2⟩:Per)]).length+(s.drop j).length)*16≤140737488355328:=by simp only [List.length_append,List.length_singleton,List.length_take,List.length_drop];have:=HN.out;omega
      clear HAB O6 X6 Z6 BOX
      generalize wr.drew=w7 at O7 X7 Z7 d0 d1 e1 ⊢
      go_wp2_with fail
      go_region_law (first
       | ((with_reducible refine key_op 67 ?_);(try simp only [Act.put,List.setIfInBounds_toArray,List.set_cons_zero,List.set_cons_succ]);refine step_append_all Rep.per (fun _=>True) rfl _ _ 129 rfl w0.heap.size 94 i0 _ 16 Tryz.underlying129 hi hz0 hz1 hz2 rfl (by decide) u (s.take i) rfl (by exact O7.out.ext ((Ext.refl w7).alloc (.cells (perEnc ⟨f2,t2⟩).toArray 94)).drew) _ [⟨f2,t2⟩] rfl (by exact lone_flat (T:=94) (cs:=perEnc ⟨f2,t2⟩) flat_per ⟨rfl,HF2.out⟩ O7.out) B1 B2 (by exact Nat.le_trans Z7.out ((Ext.refl w7).alloc (.cells (perEnc ⟨f2,t2⟩).toArray 94)).drew.size) ?_;intro v1 w1 own1 gr1 at1;have x1:Ext w w1:=Chg.below (chg_grown gr1) (X7.out.alloc (.cells (perEnc ⟨f2,t2⟩).toArray 94)).drew (fun b hb=>Nat.le_trans X0.out.size (O7.out.lt b hb).1);have z1:w0.heap.size≤w1.heap.size:=Nat.le_trans (Nat.le_trans Z7.out ((Ext.refl w7).alloc (.cells (perEnc ⟨f2,t2⟩).toArray 94)).drew.size) gr1.size)
       | ((with_reducible refine key_op 71 ?_);(try simp only [Act.put,List.setIfInBounds_toArray,List.set_cons_zero,List.set_cons_succ]);refine step_append_all Rep.per (fun _=>True) rfl _ _ 129 rfl w0.heap.size 94 i0 _ 16 Tryz.underlying129 hi hz0 hz1 hz2 rfl (by decide) v1 (s.take i ++ [(⟨f2,t2⟩:Per)]) rfl own1 _ (s.drop j) rfl (by exact HIS.out.away flat_per x1 (fun k h=>Nat.le_trans X0.out.size (own1.base k h))) B3 B4 z1 ?_;intro v2 w2 own2 gr2 at2;have x2:Ext w w2:=Chg.below (chg_grown gr2) x1 (fun b hb=>Nat.le_trans X0.out.size (own1.lt b hb).1)))
      all_goals
       have XF:=Lib.hid x2
       have OF:=Lib.hid own2
       clear own1 own2 gr1 gr2 at1 at2 x1 x2 z1
       go_wp2_with fail
       all_goals go_ret
       all_goals exact⟨_,rfl,by rw [HFIN.out];exact(OF.out.fresh flat_per).ext (on_mono _ fun q _ hq=>by have h1:=HE.out;exact Nat.le_trans (show w.heap.size≤w0.heap.size by omega) hq),XF.out⟩
  ·have hd:decide ((i:Int)<(n:Int))=false:=by simp;omega
   have hdn:decide (i<n)=false:=by simp;omega
   have hd2 : ¬(i:Int)<(n:Int):=by omega
   have HSTOP:=Lib.hid (show insPer (s.drop i) ⟨f,t⟩=(absorb (s.drop i) ⟨f,t⟩).1::(absorb (s.drop i) ⟨f,t⟩).2 from ins_stop fun h=>by have:=HN.out;omega)
   have hil5:i≤1000:=by omega
   go_wp2_with fail
   go_big_region_o
   have OO5:=Lib.hid (OO.out.ext (Ext.refl wr).drew)
   have X5:=Lib.hid X1.out.drew
   clear hd hdn hd2 hin OO X1
   generalize wr.drew=w5 at OO5 X5 ⊢
   have OKK:=Lib.hid (OO5.out.lt)
   go_wp2_with fail
   go_loopg [6] (n - i) (fun gk vi wr=> ∃(j:Nat) (f2 t2:Int),j≤n∧gk=n - j∧vi = .int .i64 j∧Hid (okI f2∧okI t2)∧Hid (absorb (s.drop i) ⟨f,t⟩=absorb (s.drop j) ⟨f2,t2⟩)∧Hid (wr.cell? ⟨E,0,none⟩=some (.int .i64 f2)∧wr.cell? ⟨E,1,none⟩=some (.int .i64 t2)∧wr.frozen? ⟨E,0,none⟩=false∧wr.frozen? ⟨E,1,none⟩=false)∧Hid (OwnOf Rep.per wr (fun _=>True) w0.heap.size 94 u (s.take i))∧Hid (Ext w wr)∧Hid (w0.heap.size≤wr.heap.size))
   case atStart=>exact⟨i,f,t,by omega,rfl,rfl,HFT.out,rfl,⟨X5.out.at M0.out.1,X5.out.at M0.out.2.1,X5.out.unfrozen M0.out.1 M0.out.2.2.1,X5.out.unfrozen M0.out.2.1 M0.out.2.2.2⟩,OO5.out,X0.out.trans X5.out,X5.out.size⟩
   case round =>
    clear OO5 X5 OKK
    obtain⟨j,f2,t2,hj,rfl,rfl,HF2,ABS,BOX,O6,X6,Z6⟩:=hrel
    have UE:=Lib.hid (show ∀k,u.ownBlock=some k→ ¬k=E from fun k hk e=>by have h1:=(O6.out.lt k hk).1;have h2:=HE.out.2;omega)
    by_cases hjn:j<n
    ·have hjl:j<s.length:=by have:=HN.out;omega
     obtain⟨b,o,rfl⟩:=HP.out (by decide) (by omega)
     have hv:=HV.out
     rw [←HN.out]at hv
     obtain⟨c0,c1,r1,r2⟩:=per_at hv j hjl
     have NE:=Lib.hid (show ¬b=E from fun e=>by have h1:=cell_lt c0;have h2:=HE.out.1;omega)
     replace c0:=X6.out.at c0
     replace c1:=X6.out.at c1
     obtain⟨q,hq⟩ : ∃q,q=s[j]:=⟨_,rfl⟩
     rw [←hq]at c0 c1 r1 r2
     have HQ:=Lib.hid hq
     obtain⟨qf,qt⟩:=q
     dsimp only at c0 c1 r1 r2
     have HR:=Lib.hid (And.intro r1 r2)
     have d0:=BOX.out.1
     have d1:=BOX.out.2.1
     have e0:=cell_lt c0
     have e1:=cell_lt d0
     have f0:=BOX.out.2.2.1
     have f1:=BOX.out.2.2.2
     have hd:decide ((j:Int)<(n:Int))=true:=by simp;omega
     have hd1:(j:Int)<(n:Int):=by omega
     have hdn:decide (j<n)=true:=by simp;omega
     have hne : ¬b=E:=NE.out
     have hne2 : ¬E=b:=fun e=>NE.out e.symm
     clear r1 r2 hv hq
     by_cases hqf:qf≤t2
     ·have hdq:decide (qf≤t2)=true:=by simp [hqf]
      have HAB:=Lib.hid (show absorb (s.drop i) ⟨f,t⟩=absorb (s.drop (j+1)) ⟨min f2 qf,max t2 qt⟩from by
       rw [ABS.out,abs_step hjl (by rw [←HQ.out];exact hqf),←HQ.out])
      clear hqf
      go_wp2_with fail
      go_big_region_o
      all_goals go_wp2_with fail
      all_goals go_big_region_o
      all_goals go_wp2_with fail
      all_goals go_big_region_o
      all_goals go_wp2_with fail
      all_goals go_roundg (n - (j+1))
      all_goals first
       | (case measure=>omega)
       | (case rel =>
           have hb2:=box_two BOX.out (.int .i64 (min f2 qf)) (.int .i64 (max t2 qt))
           exact⟨j+1,min f2 qf,max t2 qt,by omega,rfl,by go_num,okI_minmax HF2.out HR.out,HAB.out,hb2.1,(O6.out.chg flat_per hb2.2 UE.out).ext (Ext.refl _).drew.drew.drew,(Chg.below hb2.2 X6.out fun k hk=>by rw [hk];exact HE.out.1).drew.drew.drew,Nat.le_trans Z6.out hb2.2.size⟩)
     ·have hdq:decide (qf≤t2)=false:=by simp [hqf]
      have HAB:=Lib.hid (show absorb (s.drop i) ⟨f,t⟩=(⟨f2,t2⟩,s.drop j)from by
       rw [ABS.out,abs_stop fun h=>by rw [←HQ.out];exact hqf])
      have hcj:j≤cap:=by have:=HC.out.1;omega
      have hcj2 : ¬cap=j:=by have:=HC.out.1;omega
      have hcj3 : ¬(j:Int)=(cap:Int):=by omega
      have hcj4:(j:Int)≤(n:Int):=by omega
      clear hqf
      have HIS:=Lib.hid (show SliceOf Rep.per w.cell? (.slice (some ⟨b,o+j*2,none⟩) (n - j) (cap - j)) (s.drop j)from by have h:=SliceOf.dropV (by have h:=HV.out;rwa [←HN.out]at h) j (by omega);rwa [←HN.out]at h)
      go_wp2_with fail
      go_big_region_o
      clear hd hdn hd1 hdq hne hne2 c0 c1 d0 d1 e0 e1 f0 f1
      have HFIN:=Lib.hid (show insPer s ⟨f,t⟩=s.take i ++ [⟨f2,t2⟩]++s.drop j from by rw [INV.out,HSTOP.out,HAB.out,List.append_assoc];rfl)
      have O7:=Lib.hid (O6.out.ext (Ext.refl wr).drew)
      have X7:=Lib.hid (show Ext w wr.drew from X6.out.drew)
      have Z7:=Lib.hid (show w0.heap.size≤wr.drew.heap.size from Z6.out)
      have d0:wr.drew.cell? ⟨E,0,none⟩=some (.int .i64 f2):=BOX.out.1
      have d1:wr.drew.cell? ⟨E,1,none⟩=some (.int .i64 t2):=BOX.out.2.1
      have e1:=cell_lt d0
      have B1:(s.take i).length + [(⟨f2,t2⟩:Per)].length≤maxLen:=by simp only [List.length_singleton,List.length_take,maxLen];omega
      have B2:((s.take i).length + [(⟨f2,t2⟩:Per)].length)*16≤140737488355328:=by simp only [List.length_singleton,List.length_take];omega
      have B3:(s.take i ++ [(⟨f2,t2⟩:Per)]).length+(s.drop j).length≤maxLen:=by simp only [List.length_append,List.length_singleton,List.length_take,List.length_drop,maxLen];have:=HN.out;omega
      have B4:((s.take i ++ [(⟨f2,t2⟩:Per)]).length+(s.drop j).length)*16≤140737488355328:=by simp only [List.length_append,List.length_singleton,List.length_take,List.length_drop];have:=HN.out;omega
      clear HAB O6 X6 Z6 BOX
      generalize wr.drew=w7 at O7 X7 Z7 d0 d1 e1 ⊢
      go_wp2_with fail
      go_region_law (first
       | ((with_reducible refine key_op 67 ?_);(try simp only [Act.put,List.setIfInBounds_toArray,List.set_cons_zero,List.set_cons_succ]);refine step_append_all Rep.per (fun _=>True) rfl _ _ 129 rfl w0.heap.size 94 i0 _ 16 Tryz.underlying129 hi hz0 hz1 hz2 rfl (by decide) u (s.take i) rfl (by exact O7.out.ext ((Ext.refl w7).alloc (.cells (perEnc ⟨f2,t2⟩).toArray 94)).drew) _ [⟨f2,t2⟩] rfl (by exact lone_flat (T:=94) (cs:=perEnc ⟨f2,t2⟩) flat_per ⟨rfl,HF2.out⟩ O7.out) B1 B2 (by exact Nat.le_trans Z7.out ((Ext.refl w7).alloc (.cells (perEnc ⟨f2,t2⟩).toArray 94)).drew.size) ?_;intro v1 w1 own1 gr1 at1;have x1:Ext w w1:=Chg.below (chg_grown gr1) (X7.out.alloc (.cells (perEnc ⟨f2,t2⟩).toArray 94)).drew (fun b hb=>Nat.le_trans X0.out.size (O7.out.lt b hb).1);have z1:w0.heap.size≤w1.heap.size:=Nat.le_trans (Nat.le_trans Z7.out ((Ext.refl w7).alloc (.cells (perEnc ⟨f2,t2⟩).toArray 94)).drew.size) gr1.size)
       | ((with_reducible refine key_op 71 ?_);(try simp only [Act.put,List.setIfInBounds_toArray,List.set_cons_zero,List.set_cons_succ]);refine step_append_all Rep.per (fun _=>True) rfl _ _ 129 rfl w0.heap.size 94 i0 _ 16 Tryz.underlying129 hi hz0 hz1 hz2 rfl (by decide) v1 (s.take i ++ [(⟨f2,t2⟩:Per)]) rfl own1 _ (s.drop j) rfl (by exact HIS.out.away flat_per x1 (fun k h=>Nat.le_trans X0.out.size (own1.base k h))) B3 B4 z1 ?_;intro v2 w2 own2 gr2 at2;have x2:Ext w w2:=Chg.below (chg_grown gr2) x1 (fun b hb=>Nat.le_trans X0.out.size (own1.lt b hb).1)))
      all_goals
       have XF:=Lib.hid x2
       have OF:=Lib.hid own2
       clear own1 own2 gr1 gr2 at1 at2 x1 x2 z1
       go_wp2_with fail
       all_goals go_ret
       all_goals exact⟨_,rfl,by rw [HFIN.out];exact(OF.out.fresh flat_per).ext (on_mono _ fun q _ hq=>by have h1:=HE.out;exact Nat.le_trans (show w.heap.size≤w0.heap.size by omega) hq),XF.out⟩
    ·have HAB:=Lib.hid (show absorb (s.drop i) ⟨f,t⟩=(⟨f2,t2⟩,s.drop j)from by
      rw [ABS.out,abs_stop fun h=>by have:=HN.out;omega])
     have hd:decide ((j:Int)<(n:Int))=false:=by simp;omega
     have hdn:decide (j<n)=false:=by simp;omega
     have hd2 : ¬(j:Int)<(n:Int):=by omega
     have hcj:j≤cap:=by have:=HC.out.1;omega
     have HIS:=Lib.hid (show SliceOf Rep.per w.cell? (.slice (if cap=j then p else Option.map (fun x:Addr=>x.add (j*2)) p) (n - j) (cap - j)) (s.drop j)from by rw [HN.out];exact per_rest HV.out j (by have:=HN.out;omega))
     go_wp2_with fail
     go_big_region_o
     clear hd hdn hd2
     have HFIN:=Lib.hid (show insPer s ⟨f,t⟩=s.take i ++ [⟨f2,t2⟩]++s.drop j from by rw [INV.out,HSTOP.out,HAB.out,List.append_assoc];rfl)
     have O7:=Lib.hid (O6.out.ext (Ext.refl wr).drew)
     have X7:=Lib.hid (show Ext w wr.drew from X6.out.drew)
     have Z7:=Lib.hid (show w0.heap.size≤wr.drew.heap.size from Z6.out)
     have d0:wr.drew.cell? ⟨E,0,none⟩=some (.int .i64 f2):=BOX.out.1
     have d1:wr.drew.cell? ⟨E,1,none⟩=some (.int .i64 t2):=BOX.out.2.1
     have e1:=cell_lt d0
     have B1:(s.take i).length + [(⟨f2,t2⟩:Per)].length≤maxLen:=by simp only [List.length_singleton,List.length_take,maxLen];omega
     have B2:((s.take i).length + [(⟨f2,t2⟩:Per)].length)*16≤140737488355328:=by simp only [List.length_singleton,List.length_take];omega
     have B3:(s.take i ++ [(⟨f2,t2⟩:Per)]).length+(s.drop j).length≤maxLen:=by simp only [List.length_append,List.length_singleton,List.length_take,List.length_drop,maxLen];have:=HN.out;omega
     have B4:((s.take i ++ [(⟨f2,t2⟩:Per)]).length+(s.drop j).length)*16≤140737488355328:=by simp only [List.length_append,List.length_singleton,List.length_take,List.length_drop];have:=HN.out;omega
     clear HAB O6 X6 Z6 BOX
     generalize wr.drew=w7 at O7 X7 Z7 d0 d1 e1 ⊢
     go_wp2_with fail
     go_region_law (first
      |((with_reducible refine key_op 67 ?_);(try simp only [Act.put,List.setIfInBounds_toArray,List.set_cons_zero,List.set_cons_succ]);refine step_append_all Rep.per (fun _=>True) rfl _ _ 129 rfl w0.heap.size 94 i0 _ 16 Tryz.underlying129 hi hz0 hz1 hz2 rfl (by decide) u (s.take i) rfl (by exact O7.out.ext ((Ext.refl w7).alloc (.cells (perEnc ⟨f2,t2⟩).toArray 94)).drew) _ [⟨f2,t2⟩] rfl (by exact lone_flat (T:=94) (cs:=perEnc ⟨f2,t2⟩) flat_per ⟨rfl,HF2.out⟩ O7.out) B1 B2 (by exact Nat.le_trans Z7.out ((Ext.refl w7).alloc (.cells (perEnc ⟨f2,t2⟩).toArray 94)).drew.size) ?_;intro v1 w1 own1 gr1 at1;have x1:Ext w w1:=Chg.below (chg_grown gr1) (X7.out.alloc (.cells (perEnc ⟨f2,t2⟩).toArray 94)).drew (fun b hb=>Nat.le_trans X0.out.size (O7.out.lt b hb).1);have z1:w0.heap.size≤w1.heap.size:=Nat.le_trans (Nat.le_trans Z7.out ((Ext.refl w7).alloc (.cells (perEnc ⟨f2,t2⟩).toArray 94)).drew.size) gr1.size)
      |((with_reducible refine key_op 71 ?_);(try simp only [Act.put,List.setIfInBounds_toArray,List.set_cons_zero,List.set_cons_succ]);refine step_append_all Rep.per (fun _=>True) rfl _ _ 129 rfl w0.heap.size 94 i0 _ 16 Tryz.underlying129 hi hz0 hz1 hz2 rfl (by decide) v1 (s.take i ++ [(⟨f2,t2⟩:Per)]) rfl own1 _ (s.drop j) rfl (by exact HIS.out.away flat_per x1 (fun k h=>Nat.le_trans X0.out.size (own1.base k h))) B3 B4 z1 ?_;intro v2 w2 own2 gr2 at2;have x2:Ext w w2:=Chg.below (chg_grown gr2) x1 (fun b hb=>Nat.le_trans X0.out.size (own1.lt b hb).1)))
     all_goals
      have XF:=Lib.hid x2
      have OF:=Lib.hid own2
      clear own1 own2 gr1 gr2 at1 at2 x1 x2 z1
      go_wp2_with fail
      all_goals go_ret
      all_goals exact⟨_,rfl,by rw [HFIN.out];exact(OF.out.fresh flat_per).ext (on_mono _ fun q _ hq=>by have h1:=HE.out;exact Nat.le_trans (show w.heap.size≤w0.heap.size by omega) hq),XF.out⟩
end Go.Proofs.YtkddkbpoefidpaaGreatDoor
namespace Go.Proofs.YtkddkbpoefidpaaGreatDoor
open Go.RowKit Go.Shelf Go.Sort
theorem refNorm_step (l:List Per) (k:Nat) (h:k<l.length):refNorm (l.take (k+1))=if validB l[k].from_ l[k].to_=true then insPer (refNorm (l.take k)) l[k]else refNorm (l.take k):=by
 rw [List.take_succ_eq_append_getElem h,refNorm_snoc]
set_option maxRecDepth 100000 in
set_option maxHeartbeats 4000000 in
theorem refNormalize_any (v:Value) (l:List Per) (w:World) (hv:SliceOf Rep.per w.cell? v l) (hl:l.length≤1000) :
  Calls Tryz.prog 171 #[v] w fun e w'=> ∃v',e = .returned v'∧SliceOf Rep.per (on w' (since w)) v' (refNorm l)∧Ext w w':=by
 have mixed:=mixedOrd
 obtain⟨p,cap,rfl,hc1,hc2,hp⟩:=hv.form
 obtain⟨N,hN⟩ : ∃N,N=l.length:=⟨_,rfl⟩
 have HV:=Lib.hid hv
 rw [←hN]
 have HN:=Lib.hid hN
 have HP:=Lib.hid hp
 have hNl:N≤1000:=by omega
 clear hv hN hp hc1 hc2
 go_enter Tryz.func171,Tryz.ntmps171
 go_wp2_with fail
 go_loopg [3,4] N (fun gk vo vi wr=> ∃(k:Nat) (u:Value) (o:List Per),k≤N∧gk=N - k∧vi = .int .i64 k∧u=vo∧Hid (SliceOf Rep.per (on wr (since w)) u o)∧Hid (o=refNorm (l.take k))∧Hid (Ext w wr))
 case atStart=>exact⟨0,_,[],by omega,rfl,rfl,rfl,SliceOf.nil _ _,rfl,Ext.refl w⟩
 case round =>
  obtain⟨k,u,o,hk,rfl,rfl,rfl,OW,HO,X⟩:=hrel
  by_cases hlt:k<N
  ·have hkl:k<l.length:=by have:=HN.out;omega
   obtain⟨b,o',rfl⟩:=HP.out (by decide) (by omega)
   have hv:=HV.out
   rw [←HN.out]at hv
   obtain⟨c0,c1,r1,r2⟩:=per_at hv k hkl
   replace c0:=X.out.at c0
   replace c1:=X.out.at c1
   have hst:=refNorm_step l k hkl
   rw [←HO.out]at hst
   have hol:o.length≤1000:=by
    rw [HO.out]
    have h1:=refNorm_len (l.take k)
    have h2:=List.length_take_le k l
    omega
   generalize l[k]=q at c0 c1 r1 r2 hst
   obtain⟨f,t⟩:=q
   dsimp only at c0 c1 r1 r2 hst
   have HST:=Lib.hid hst
   have HR:=Lib.hid (show okI f∧okI t from ⟨r1,r2⟩)
   have HOL:=Lib.hid hol
   have hd:decide ((k:Int)<(N:Int))=true:=by simp;omega
   have hd1:(k:Int)<(N:Int):=by omega
   have e0:=cell_lt c0
   obtain⟨pu,cu,hu,_⟩:=OW.out.form
   subst hu
   clear hst r1 r2 hv hol
   go_wp2_with fail
   refine(rvalid_any f t _).mono ?_
   rintro e w1 ⟨rfl,x1⟩
   replace c0:=x1.at c0
   replace c1:=x1.at c1
   have X1:=Lib.hid x1
   have e1:=cell_lt c0
   clear x1 e0
   cases hvb:validB f t with
   |true =>
    have HVB:=Lib.hid hvb
    clear hvb
    go_wp2_with fail
    refine(insert_any _ o f t _ (OW.out.ext ((on_sub _ _).trans X1.out.full)) HR.out HOL.out).mono ?_
    rintro e w2 ⟨v2,rfl,s2,x2⟩
    have S2:=Lib.hid (s2.ext (on_mono _ fun q _ hq=>Nat.le_trans (X.out.trans X1.out).size hq))
    have X2:=Lib.hid ((X.out.trans X1.out).trans x2)
    clear s2 x2 c0 c1 e1
    go_wp2_with fail
    go_roundg (N - (k+1))
    case measure=>omega
    case rel=>exact⟨k+1,v2,insPer o ⟨f,t⟩,by omega,rfl,by go_num,rfl,S2.out,by show _=_;rw [HST.out,if_pos HVB.out],X2.out⟩
   |false =>
    have HVB:=Lib.hid hvb
    clear hvb
    go_wp2_with fail
    go_roundg (N - (k+1))
    case measure=>omega
    case rel=>exact⟨k+1,_,o,by omega,rfl,by go_num,rfl,OW.out.ext (X1.out.sub _),by show _=_;rw [HST.out,HVB.out,if_neg (by decide)],X.out.trans X1.out⟩
  ·have hkN:k=N:=by omega
   have hd : ¬(k:Int)<(N:Int):=by omega
   have HF:=Lib.hid (show o=refNorm l from by have h:=HO.out;rwa [hkN,HN.out,List.take_length]at h)
   clear hkN
   go_wp2_with fail
   go_ret
   exact⟨u,rfl,by rw [←HF.out];exact OW.out,X.out⟩
end Go.Proofs.YtkddkbpoefidpaaGreatDoor
namespace Go.Proofs.YtkddkbpoefidpaaGreatDoor
open Go.RowKit
def oneStep (c:Bool) (x:Int) (q:Option Int×List Per):Option Int×List Per :=
 match q.1 with
 |none=>if c=true then(some x,q.2)else(none,q.2)
 |some s=>if c=true then(some s,q.2)else(none,q.2 ++ [⟨s,x⟩])
def oneOf (P:List Int) (f:Nat→Nat) (j:Nat):Nat→Option Int×List Per
 |0=>(none,[])
 |m+1=>oneStep (decide (j<f m)) P[m]! (oneOf P f j m)
def closeAt (st:List Int) (d:Nat) (x:Int) (j:Nat):List Per:=if d≤j then((st[j]?).map fun s=>(⟨s,x⟩:Per)).toList else []
theorem drop_flat (x:Int) : ∀(st:List Int) (d n:Nat),st.length≤n→(st.drop d).map (fun s=>(⟨s,x⟩:Per))=(List.range n).flatMap (closeAt st d x):=by
 intro st
 induction st with
 |nil =>
  intro d n _
  rw [List.drop_nil,List.map_nil]
  symm
  rw [List.flatMap_eq_nil_iff]
  intro j _
  unfold closeAt
  split <;> rfl
 |cons a st ih =>
  intro d n hn
  obtain⟨n,rfl⟩ : ∃m,n=m+1:=⟨n - 1,by rw [List.length_cons]at hn;omega⟩
  have hn':st.length≤n:=by rw [List.length_cons]at hn;omega
  rw [List.range_succ_eq_map,List.flatMap_cons,List.flatMap_map]
  cases d with
  |zero =>
   have h:=ih 0 n hn'
   rw [List.drop_zero]at h
   rw [List.drop_zero,List.map_cons,h]
   rfl
  |succ d =>
   rw [List.drop_succ_cons,ih d n hn']
   show _ = []++_
   rw [List.nil_append]
   refine flat_congr fun j _=> ?_
   unfold closeAt
   rw [List.getElem?_cons_succ]
   by_cases c:d≤j
   ·rw [if_pos c,if_pos (by omega)]
   ·rw [if_neg c,if_neg (by omega)]
theorem lev_one (P:List Int) (f:Nat→Nat) (n:Nat) (hf : ∀i,f i≤n) (m:Nat) :
  (∀j,(levOf P f m).1[j]?=(oneOf P f j m).1)∧(levOf P f m).1.length≤n∧(levOf P f m).2.Perm ((List.range n).flatMap fun j=>(oneOf P f j m).2):=by
 induction m with
 |zero =>
  refine⟨fun j=>rfl,Nat.zero_le _,?_⟩
  have:((List.range n).flatMap fun j=>(oneOf P f j 0).2) = []:=List.flatMap_eq_nil_iff.2 fun j _=>rfl
  rw [this]
  exact .refl _
 |succ m ih =>
  obtain⟨h1,h2,h3⟩:=ih
  refine⟨fun j=> ?_,?_,?_⟩
  ·have e:=h1 j
   show ((levOf P f m).1.take (f m)++List.replicate (f m - (levOf P f m).1.length) P[m]!)[j]?=(oneStep (decide (j<f m)) P[m]! (oneOf P f j m)).1
   generalize (levOf P f m).1=st at e h2
   generalize oneOf P f j m=q at e
   obtain⟨o,out⟩:=q
   dsimp only at e
   unfold oneStep
   by_cases c:j<f m
   ·by_cases c2:j<st.length
    ·rw [List.getElem?_append_left (by rw [List.length_take];omega),List.getElem?_take_of_lt c]
     rw [List.getElem?_eq_getElem c2]at e ⊢
     subst e
     simp [c]
    ·rw [List.getElem?_append_right (by rw [List.length_take];omega),List.length_take,List.getElem?_replicate]
     rw [List.getElem?_eq_none (by omega)]at e
     subst e
     rw [if_pos (by omega)]
     simp [c]
   ·rw [List.getElem?_eq_none (by rw [List.length_append,List.length_take,List.length_replicate];omega)]
    cases o <;> simp [c]
  ·show (levStep _ _ _).1.length≤n
   rw [levStep_len]
   exact hf m
  ·show ((levOf P f m).2++((levOf P f m).1.drop (f m)).reverse.map fun s=>(⟨s,P[m]!⟩:Per)).Perm _
   have h4:(((levOf P f m).1.drop (f m)).reverse.map fun s=>(⟨s,P[m]!⟩:Per)).Perm ((List.range n).flatMap (closeAt (levOf P f m).1 (f m) P[m]!)):=by
    rw [←drop_flat P[m]! _ _ _ h2]
    exact(List.reverse_perm _).map _
   refine((h3.append h4).trans (flat_perm2 _ _ _)).trans (List.Perm.of_eq (flat_congr fun j _=> ?_))
   have e:=h1 j
   show _=(oneStep (decide (j<f m)) P[m]! (oneOf P f j m)).2
   generalize (levOf P f m).1=st at e
   generalize oneOf P f j m=q at e
   obtain⟨o,out⟩:=q
   dsimp only at e
   unfold oneStep closeAt
   rw [e]
   by_cases c:j<f m
   ·rw [if_neg (by omega)]
    cases o <;> simp [c]
   ·rw [if_pos (by omega)]
    cases o <;> simp [c]
theorem oneOf_law {P:List Int} (hP:P.Pairwise (· < ·)) (f:Nat→Nat) (j:Nat) (m:Nat) (hm:m≤P.length) :
  (∀t,(inPer (oneOf P f j m).2 t∨ ∃s,(oneOf P f j m).1=some s∧s≤t)↔j<gAt P f m t)∧(∀s,(oneOf P f j m).1=some s→(∀p∈(oneOf P f j m).2,p.to_<s)∧(m<P.length→s<P[m]!))∧(∀p∈(oneOf P f j m).2,m<P.length→p.to_<P[m]!)∧NormPer (oneOf P f j m).2∧(0<m→((oneOf P f j m).1.isSome=true↔j<f (m - 1))):=by
 induction m with
 |zero=>exact⟨fun t=>⟨fun h=>(h.elim (fun⟨p,hp,_⟩=>(by cases hp)) (fun⟨s,hs,_⟩=>(by cases hs))),fun h=>absurd h (Nat.not_lt_zero _)⟩,fun s hs=>(by cases hs),fun p hp=>(by cases hp),⟨.nil,fun p hp=>(by cases hp)⟩,fun h=>absurd h (Nat.lt_irrefl 0)⟩
 |succ m ih =>
  obtain⟨h1,h2,h3,h4,_⟩:=ih (by omega)
  have hup : ∀z,z≤P[m]! →m+1<P.length→z<P[m+1]! := fun z hz h=>by
   have:=asc_at hP (show m<m+1 by omega) h
   omega
  have e:oneOf P f j (m+1)=oneStep (decide (j<f m)) P[m]! (oneOf P f j m):=rfl
  have eg : ∀t,gAt P f (m+1) t=if P[m]! ≤t then f m else gAt P f m t:=fun t=>rfl
  have h3' : ∀p∈(oneOf P f j m).2,p.to_<P[m]! := fun p hp=>h3 p hp (by omega)
  rw [e]
  generalize oneOf P f j m=q at h1 h2 h3' h4
  obtain⟨o,out⟩:=q
  dsimp only at h1 h2 h3' h4
  have hout : ∀t,P[m]! ≤t→ ¬inPer out t:=fun t ht ⟨p,hp,g1,g2⟩=>by have:=h3' p hp;omega
  unfold oneStep
  cases o with
  |none =>
   by_cases c:j<f m
   ·simp only [c,decide_true,if_true]
    refine⟨fun t=> ?_,fun s hs=> ?_,fun p hp hl=>hup _ (by have:=h3' p hp;omega) hl,h4,fun _=>by simpa using c⟩
    ·rw [eg]
     by_cases ct:P[m]! ≤t
     ·rw [if_pos ct]
      exact⟨fun _=>c,fun _=> .inr ⟨_,rfl,ct⟩⟩
     ·rw [if_neg ct,←h1 t]
      constructor
      ·rintro(h | ⟨s,hs,hst⟩)
       ·exact .inl h
       ·cases hs;exact absurd hst ct
      ·rintro(h | ⟨s,hs,hst⟩)
       ·exact .inl h
       ·cases hs
    ·cases hs
     exact⟨fun p hp=>h3' p hp,fun hl=>hup _ (Int.le_refl _) hl⟩
   ·simp only [c,decide_false,Bool.false_eq_true,if_false]
    refine⟨fun t=> ?_,fun s hs=>(by cases hs),fun p hp hl=>hup _ (by have:=h3' p hp;omega) hl,h4,fun _=>by simpa using c⟩
    rw [eg]
    by_cases ct:P[m]! ≤t
    ·rw [if_pos ct]
     constructor
     ·rintro(h | ⟨s,hs,_⟩)
      ·exact absurd h (hout t ct)
      ·cases hs
     ·intro h;exact absurd h c
    ·rw [if_neg ct];exact h1 t
  |some s0 =>
   obtain⟨k1,k2⟩:=h2 s0 rfl
   have k2:=k2 (by omega)
   by_cases c:j<f m
   ·simp only [c,decide_true,if_true]
    refine⟨fun t=> ?_,fun s hs=> ?_,fun p hp hl=>hup _ (by have:=h3' p hp;omega) hl,h4,fun _=>by simpa using c⟩
    ·rw [eg]
     by_cases ct:P[m]! ≤t
     ·rw [if_pos ct]
      exact⟨fun _=>c,fun _=> .inr ⟨_,rfl,by omega⟩⟩
     ·rw [if_neg ct];exact h1 t
    ·cases hs
     exact⟨k1,fun hl=>hup _ (by omega) hl⟩
   ·simp only [c,decide_false,Bool.false_eq_true,if_false]
    refine⟨fun t=> ?_,fun s hs=>(by cases hs),fun p hp hl=> ?_,⟨?_,?_⟩,fun _=>by simpa using c⟩
    ·rw [eg]
     by_cases ct:P[m]! ≤t
     ·rw [if_pos ct]
      constructor
      ·rintro(h | ⟨s,hs,_⟩)
       ·rcases inPer_append.1 h with h | ⟨p,hp,g1,g2⟩
        ·exact absurd h (hout t ct)
        ·rw [List.mem_singleton]at hp;subst hp;dsimp only at g1 g2;omega
       ·cases hs
      ·intro h;exact absurd h c
     ·rw [if_neg ct,←h1 t]
      constructor
      ·rintro(h | ⟨s,hs,_⟩)
       ·rcases inPer_append.1 h with h | ⟨p,hp,g1,g2⟩
        ·exact .inl h
        ·rw [List.mem_singleton]at hp;subst hp;exact .inr ⟨_,rfl,g1⟩
       ·cases hs
      ·rintro(h | ⟨s,hs,hst⟩)
       ·exact .inl (inPer_append.2 (.inl h))
       ·cases hs
        exact .inl (inPer_append.2 (.inr ⟨_,List.mem_singleton.2 rfl,hst,by show t<P[m]!;omega⟩))
    ·rcases List.mem_append.1 hp with hp | hp
     ·exact hup _ (by have:=h3' p hp;omega) hl
     ·rw [List.mem_singleton]at hp;subst hp;exact hup _ (Int.le_refl _) hl
    ·rw [List.pairwise_append]
     refine⟨h4.1,List.pairwise_singleton _ _,fun a ha b hb=> ?_⟩
     rw [List.mem_singleton]at hb
     subst hb
     exact k1 a ha
    ·intro p hp
     rcases List.mem_append.1 hp with hp | hp
     ·exact h4.2 p hp
     ·rw [List.mem_singleton]at hp;subst hp;exact k2
theorem gAt_iff {P:List Int} (hP:P.Pairwise (· < ·)) (f:Nat→Nat) (j:Nat) (t:Int) (m:Nat) (hm:m≤P.length):j<gAt P f m t↔ ∃i,i<m∧j<f i∧P[i]! ≤t∧(i+1<m→t<P[i+1]!):=by
 induction m with
 |zero=>exact⟨fun h=>absurd h (Nat.not_lt_zero _),fun⟨i,hi,_⟩=>absurd hi (Nat.not_lt_zero _)⟩
 |succ m ih =>
  have eg:gAt P f (m+1) t=if P[m]! ≤t then f m else gAt P f m t:=rfl
  rw [eg]
  by_cases c:P[m]! ≤t
  ·rw [if_pos c]
   constructor
   ·intro h;exact⟨m,by omega,h,c,fun h=>absurd h (Nat.lt_irrefl _)⟩
   ·rintro⟨i,g1,g2,g3,g4⟩
    by_cases e:i=m
    ·rw [←e];exact g2
    ·have g5:=g4 (by omega)
     have:P[i+1]! ≤P[m]! := by
      by_cases e2:i+1=m
      ·rw [e2];exact Int.le_refl _
      ·have:=asc_at hP (show i+1<m by omega) (by omega);omega
     omega
  ·rw [if_neg c,ih (by omega)]
   constructor
   ·rintro⟨i,g1,g2,g3,g4⟩
    refine⟨i,by omega,g2,g3,fun h=> ?_⟩
    by_cases e:i+1=m
    ·rw [e];omega
    ·exact g4 (by omega)
   ·rintro⟨i,g1,g2,g3,g4⟩
    have:i≠m:=fun e=>c (e▸g3)
    exact⟨i,by omega,g2,g3,fun h=>g4 (by omega)⟩
def lvlSet (P:List Int) (f:Nat→Nat) (j:Nat):Nat→List Per
 |0=> []
 |i+1=>lvlSet P f j i++if j<f i then [⟨P[i]!,P[i+1]!⟩]else []
theorem lvlSet_mem (P:List Int) (f:Nat→Nat) (j:Nat) (n:Nat) (p:Per):p∈lvlSet P f j n↔ ∃i,i<n∧j<f i∧p=⟨P[i]!,P[i+1]!⟩:=by
 induction n with
 |zero=>exact⟨fun h=>(by cases h),fun⟨i,h,_⟩=>absurd h (Nat.not_lt_zero _)⟩
 |succ n ih =>
  show p∈lvlSet P f j n++_↔_
  rw [List.mem_append,ih]
  constructor
  ·rintro(⟨i,h1,h2,h3⟩ | h)
   ·exact⟨i,by omega,h2,h3⟩
   ·split at h
    ·rename_i c
     rw [List.mem_singleton]at h
     exact⟨n,by omega,c,h⟩
    ·cases h
  ·rintro⟨i,h1,h2,h3⟩
   by_cases e:i=n
   ·subst e
    right
    rw [if_pos h2,List.mem_singleton]
    exact h3
   ·exact .inl ⟨i,by omega,h2,h3⟩
theorem lvlSet_len (P:List Int) (f:Nat→Nat) (j:Nat) (n:Nat):(lvlSet P f j n).length≤n:=by
 induction n with
 |zero=>exact Nat.le_refl _
 |succ n ih =>
  show (lvlSet P f j n++_).length≤_
  rw [List.length_append]
  split
  ·simp;exact ih
  ·simp;omega
theorem oneOf_norm {P:List Int} (hP:P.Pairwise (· < ·)) (hr : ∀x∈P,0≤x∧x≤1099511627776) (f:Nat→Nat) (j:Nat) (h0:0<P.length→f (P.length - 1)=0):(oneOf P f j P.length).2=refNorm (lvlSet P f j (P.length - 1)):=by
 obtain⟨h1,_,_,h4,h5⟩:=oneOf_law hP f j P.length (Nat.le_refl _)
 obtain⟨k1,k2⟩:=refNorm_law (lvlSet P f j (P.length - 1))
 have hfil:(lvlSet P f j (P.length - 1)).filter (fun p=>validB p.from_ p.to_)=lvlSet P f j (P.length - 1):=List.filter_eq_self.2 fun p hp=>by
  obtain⟨i,g1,_,rfl⟩:=(lvlSet_mem _ _ _ _ _).1 hp
  have a1:=asc_at hP (show i<i+1 by omega) (show i+1<P.length by omega)
  have a2:=hr P[i]! (by rw [getElem!_pos P i (by omega)];exact List.getElem_mem _)
  have a3:=hr P[i+1]! (by rw [getElem!_pos P (i+1) (by omega)];exact List.getElem_mem _)
  unfold validB
  simp only [Bool.and_eq_true,decide_eq_true_eq]
  omega
 rw [hfil]at k2
 have hnone:(oneOf P f j P.length).1=none:=by
  rcases Nat.eq_zero_or_pos P.length with c | c
  ·rw [c];rfl
  ·have:=not_congr (h5 c)
   rw [h0 c]at this
   cases ho:(oneOf P f j P.length).1 with
   |none=>rfl
   |some s=>rw [ho]at this;simp at this
 refine norm_unique h4 k1 fun t=> ?_
 rw [k2 t]
 have h1:=h1 t
 rw [hnone]at h1
 have h1':inPer (oneOf P f j P.length).2 t↔j<gAt P f P.length t:=by
  rw [←h1]
  constructor
  ·exact .inl
  ·rintro(h | ⟨s,hs,_⟩)
   ·exact h
   ·cases hs
 rw [h1',gAt_iff hP f j t _ (Nat.le_refl _)]
 constructor
 ·rintro⟨i,g1,g2,g3,g4⟩
  by_cases e:i+1<P.length
  ·exact⟨_,(lvlSet_mem _ _ _ _ _).2 ⟨i,by omega,g2,rfl⟩,g3,g4 e⟩
  ·have e2:i=P.length - 1:=by omega
   rw [e2,h0 (by omega)]at g2
   exact absurd g2 (Nat.not_lt_zero _)
 ·rintro⟨p,hp,g3,g4⟩
  obtain⟨i,g1,g2,rfl⟩:=(lvlSet_mem _ _ _ _ _).1 hp
  exact⟨i,by omega,g2,g3,fun _=>g4⟩
def cmpPer2 (x y:Per):Int:=if cmpI x.from_ y.from_=0 then cmpI x.to_ y.to_ else cmpI x.from_ y.from_
theorem ord_per2:Ord3 cmpPer2:=by
 have h2:=ord_pull ord_I2 (fun p:Per=>(p.from_,p.to_)) fun x y e=>by
  obtain⟨_,_⟩:=x
  obtain⟨_,_⟩:=y
  simp only [Prod.mk.injEq]at e
  simp [e]
 exact h2
def refLev (P:List Int) (f:Nat→Nat):Nat→List Per
 |0=> []
 |k+1=>sortBy cmpPer2 (refLev P f k++refNorm (lvlSet P f k (P.length - 1)))
theorem refLev_perm (P:List Int) (f:Nat→Nat) (k:Nat):(refLev P f k).Perm ((List.range k).flatMap fun j=>refNorm (lvlSet P f j (P.length - 1))):=by
 induction k with
 |zero=>exact .refl _
 |succ k ih =>
  rw [List.range_succ,List.flatMap_append,List.flatMap_cons,List.flatMap_nil,List.append_nil]
  exact(sortBy_perm _ _).trans (ih.append_right _)
theorem refLev_pair (P:List Int) (f:Nat→Nat) (k:Nat):(refLev P f k).Pairwise fun a b=>cmpPer2 a b≤0:=by
 cases k with
 |zero=>exact .nil
 |succ k=>exact sortBy_pair ord_per2 _
theorem refLev_len (P:List Int) (f:Nat→Nat) (k:Nat):(refLev P f k).length≤k*P.length:=by
 induction k with
 |zero=>exact Nat.zero_le _
 |succ k ih =>
  show (sortBy cmpPer2 _).length≤_
  rw [sortBy_length,List.length_append,Nat.succ_mul]
  have h1:=refNorm_len (lvlSet P f k (P.length - 1))
  have h2:=lvlSet_len P f k (P.length - 1)
  omega
def refLevels (l:List Tup):List Per:=refLev (pts l) (fun i=>cntAt l (pts l)[i]!) l.length
theorem bnd_per (l:List Tup):bnd ((l.filter validT).map fun t=>perT (tupPer t))=bnd l:=by
 unfold bnd
 induction l with
 |nil=>rfl
 |cons t l ih =>
  rw [List.flatMap_cons,←ih,List.filter_cons]
  by_cases c:validT t=true
  ·rw [if_pos c,List.map_cons,List.flatMap_cons,if_pos c,if_pos (show validT (perT (tupPer t))=true from c)]
   rfl
  ·rw [if_neg c,if_neg c]
   rfl
theorem cnt_per (l:List Tup) (x:Int):cntAt ((l.filter validT).map fun t=>perT (tupPer t)) x=cntAt l x:=by
 unfold cntAt
 rw [List.filter_map,List.length_map,List.filter_filter]
 congr 1
 refine List.filter_congr fun t _=> ?_
 have e:(holdsAt x∘fun t=>perT (tupPer t)) t=holdsAt x t:=rfl
 rw [e]
 unfold holdsAt
 cases validT t <;> simp
theorem refLevels_eq (l:List Tup):refLevels l=sortBy cmpPer2 (levels ((l.filter validT).map tupPer)):=by
 obtain⟨p1,p2,_⟩:=pts_law l
 have hp:levPts ((l.filter validT).map tupPer)=pts l:=by
  unfold levPts pts
  rw [List.map_map]
  show mergeL (bnd ((l.filter validT).map fun t=>perT (tupPer t))) []=_
  rw [bnd_per]
 have hff:levF ((l.filter validT).map tupPer)=fun i=>cntAt l (pts l)[i]! := by
  funext i
  unfold levF
  rw [hp,List.map_map]
  exact cnt_per l _
 have hf : ∀i:Nat,cntAt l (pts l)[i]! ≤l.length:=fun i=>List.length_filter_le _ _
 refine sortBy_unique ord_per2 ?_ (refLev_pair _ _ _)
 unfold levels
 rw [hp,hff]
 refine(refLev_perm _ _ _).trans (List.Perm.trans ?_ (lev_one (pts l) (fun i=>cntAt l (pts l)[i]!) l.length hf (pts l).length).2.2.symm)
 refine List.Perm.of_eq (flat_congr fun j _=> ?_)
 symm
 refine oneOf_norm p1 (fun x hx=>bnd_rng l x ((p2 x).1 hx)) _ j fun h=> ?_
 exact cnt_out p1 _ (fun x hx=>(p2 x).2 hx) (.inr (Int.le_refl _))
open Classical in
noncomputable def refNU (R:List Row) (l:List Tup):Nat→List Tup
 |0=> []
 |i+1=>refNU R l i++if 0<i∧R[i - 1]?=R[i]? then []else((R[i]?).map fun r=>(refLevels (l.filter fun t=>decide (tupRow t=r))).map (tupOf r)).getD []
open Classical in
noncomputable def heads (R:List Row):Nat→List Row
 |0=> []
 |i+1=>heads R i++if 0<i∧R[i - 1]?=R[i]? then []else(R[i]?).toList
open Classical in
theorem refNU_heads (R:List Row) (l:List Tup) (n:Nat):refNU R l n=(heads R n).flatMap fun r=>(refLevels (l.filter fun t=>decide (tupRow t=r))).map (tupOf r):=by
 induction n with
 |zero=>rfl
 |succ n ih =>
  show refNU R l n++_=(heads R n++_).flatMap _
  rw [List.flatMap_append,←ih]
  congr 1
  split
  ·rfl
  ·cases R[n]? with
   |none=>rfl
   |some r=>simp
open Classical in
theorem heads_law {R:List Row} (hs:R.Pairwise fun a b=>cmpRow a b≤0) (n:Nat) (hn:n≤R.length):(heads R n).Pairwise (fun a b=>cmpRow a b<0)∧(∀r,r∈heads R n↔r∈R.take n):=by
 induction n with
 |zero=>exact⟨.nil,fun r=>by rw [List.take_zero];exact Iff.rfl⟩
 |succ n ih =>
  obtain⟨h1,h2⟩:=ih (by omega)
  have hnl:n<R.length:=by omega
  have et:R.take (n+1)=R.take n ++ [R[n]]:=List.take_succ_eq_append_getElem hnl
  have eh:heads R (n+1)=heads R n++if 0<n∧R[n - 1]?=R[n]? then []else(R[n]?).toList:=rfl
  rw [eh,et]
  by_cases c:0<n∧R[n - 1]?=R[n]?
  ·rw [if_pos c,List.append_nil]
   refine⟨h1,fun r=> ?_⟩
   rw [h2,List.mem_append,List.mem_singleton]
   constructor
   ·exact .inl
   ·rintro(h | rfl)
    ·exact h
    ·have e:=c.2
     rw [List.getElem?_eq_getElem hnl,List.getElem?_eq_getElem (by omega)]at e
     rw [←Option.some.inj e]
     rw [List.mem_take_iff_getElem]
     exact⟨n - 1,by omega,rfl⟩
  ·rw [if_neg c,List.getElem?_eq_getElem hnl]
   refine⟨?_,fun r=> ?_⟩
   ·rw [List.pairwise_append]
    refine⟨h1,List.pairwise_singleton _ _,fun a ha b hb=> ?_⟩
    have hb':b∈ [R[n]]:=hb
    rw [List.mem_singleton]at hb'
    subst hb'
    obtain⟨i,hi,rfl⟩:=List.mem_take_iff_getElem.1 ((h2 a).1 ha)
    have hin:i<n:=by omega
    have hle : ∀j,(hj:j<n)→cmpRow R[j] R[n]≤0:=fun j hj=>List.pairwise_iff_getElem.1 hs j n (by omega) hnl hj
    have hlast:cmpRow R[n - 1] R[n]<0:=by
     have h3:=hle (n - 1) (by omega)
     rcases Int.lt_or_eq_of_le h3 with h4 | h4
     ·exact h4
     ·exfalso
      apply c
      refine⟨by omega,?_⟩
      rw [List.getElem?_eq_getElem (by omega),List.getElem?_eq_getElem hnl,(ord_row.eq _ _).1 h4]
    by_cases e:i=n - 1
    ·subst e;exact hlast
    ·have h3:cmpRow R[i] R[n - 1]≤0:=List.pairwise_iff_getElem.1 hs i (n - 1) (by omega) (by omega) (by omega)
     rcases Int.lt_or_eq_of_le h3 with h4 | h4
     ·exact ord_row.tr _ _ _ h4 hlast
     ·rw [(ord_row.eq _ _).1 h4];exact hlast
   ·rw [List.mem_append,List.mem_append,h2]
    rfl
theorem flat_drop {α β:Type} (p:α→Bool) (g:α→List β) (l:List α) (h : ∀x∈l,p x=false→g x = []):l.flatMap g=(l.filter p).flatMap g:=by
 induction l with
 |nil=>rfl
 |cons x l ih =>
  rw [List.flatMap_cons,List.filter_cons,ih fun y hy=>h y (by simp [hy])]
  cases hp:p x with
  |true=>rw [if_pos rfl,List.flatMap_cons]
  |false=>rw [if_neg (by decide),h x (by simp) hp,List.nil_append]
theorem pair_flat {α β:Type} (c:β→β→Prop) (g:α→List β) : ∀(l:List α),(∀x∈l,(g x).Pairwise c)→(l.Pairwise fun a b=> ∀x∈g a,∀y∈g b,c x y)→(l.flatMap g).Pairwise c:=by
 intro l
 induction l with
 |nil=>intro _ _;exact .nil
 |cons a l ih =>
  intro h1 h2
  obtain⟨h3,h4⟩:=List.pairwise_cons.1 h2
  rw [List.flatMap_cons,List.pairwise_append]
  refine⟨h1 a (by simp),ih (fun x hx=>h1 x (by simp [hx])) h4,fun x hx y hy=> ?_⟩
  obtain⟨b,hb,hyb⟩:=List.mem_flatMap.1 hy
  exact h3 b hb x hx y hyb
open Classical in
theorem refNU_norm (l:List Tup):refNU (sortBy cmpRow (l.map tupRow)) l (sortBy cmpRow (l.map tupRow)).length=normT l:=by
 obtain⟨h1,h2⟩:=heads_law (sortBy_pair ord_row (l.map tupRow)) (sortBy cmpRow (l.map tupRow)).length (Nat.le_refl _)
 rw [refNU_heads]
 obtain⟨D,hD⟩ : ∃D,D=heads (sortBy cmpRow (l.map tupRow)) (sortBy cmpRow (l.map tupRow)).length:=⟨_,rfl⟩
 rw [←hD]at h1 h2 ⊢
 have hm : ∀r,r∈D↔ ∃t∈l,tupRow t=r:=fun r=>by
  rw [h2,List.take_length,(sortBy_perm _ _).mem_iff,List.mem_map]
 have hg : ∀r,(refLevels (l.filter fun t=>decide (tupRow t=r))).map (tupOf r)=(sortBy cmpPer2 (levels (persOf r l))).map (tupOf r):=fun r=>by
  rw [refLevels_eq]
  unfold persOf
  congr 4
  rw [List.filter_filter,List.filter_filter]
  refine List.filter_congr fun x _=> ?_
  rw [Bool.and_comm]
 have hin : ∀r p q,cmpTup (tupOf r p) (tupOf r q)=cmpPer2 p q:=fun r p q=>by
  rw [cmpTup_eq,if_pos (show cmpRow (tupRow (tupOf r p)) (tupRow (tupOf r q))=0 from (ord_row.eq _ _).2 rfl)]
  rfl
 have hout : ∀r s p q,cmpRow r s<0→cmpTup (tupOf r p) (tupOf s q)≤0:=fun r s p q h=>by
  have e:cmpRow (tupRow (tupOf r p)) (tupRow (tupOf s q))=cmpRow r s:=rfl
  rw [cmpTup_eq,e,if_neg (by omega)]
  omega
 rw [flat_congr fun r _=>hg r]
 have hs:(D.flatMap fun r=>(sortBy cmpPer2 (levels (persOf r l))).map (tupOf r)).Pairwise fun a b=>cmpTup a b≤0:=by
  refine pair_flat _ _ D (fun r _=> ?_) (h1.imp fun h x hx y hy=> ?_)
  ·rw [List.pairwise_map]
   exact(sortBy_pair ord_per2 _).imp fun h=>by rw [hin];exact h
  ·obtain⟨p,_,rfl⟩:=List.mem_map.1 hx
   obtain⟨q,_,rfl⟩:=List.mem_map.1 hy
   exact hout _ _ _ _ h
 have hnd:D.Nodup:=h1.imp fun h e=>by rw [(ord_row.eq _ _).2 e]at h;omega
 have hperm:(D.flatMap fun r=>(sortBy cmpPer2 (levels (persOf r l))).map (tupOf r)).Perm (normRaw (D.filter fun r=>decide (∃t∈l,validT t=true∧tupRow t=r)) l):=by
  unfold normRaw
  rw [←flat_drop (fun r=>decide (∃t∈l,validT t=true∧tupRow t=r)) (fun r=>(levels (persOf r l)).map (tupOf r)) D fun r _ hr=> ?_]
  ·exact flat_permF D fun r _=>(sortBy_perm _ _).map _
  ·have:persOf r l = []:=by
    unfold persOf
    rw [List.map_eq_nil_iff,List.filter_eq_nil_iff]
    intro t ht
    obtain⟨g1,g2⟩:=List.mem_filter.1 ht
    intro g3
    exact absurd ⟨t,g1,g2,of_decide_eq_true g3⟩ (of_decide_eq_false hr)
   have hnil:levels [] = []:=List.eq_nil_iff_forall_not_mem.2 fun p hp=>by
    have h3:=(levels_ends [] p hp).1
    obtain⟨_,p2,_⟩:=pts_law (([]:List Per).map perT)
    have h4:=(p2 _).1 h3
    cases h4
   rw [this,hnil]
   rfl
 have hk : ∀r,r∈D.filter (fun r=>decide (∃t∈l,validT t=true∧tupRow t=r))↔ ∃t∈l,validT t=true∧tupRow t=r:=fun r=>by
  rw [List.mem_filter,hm,decide_eq_true_eq]
  exact⟨fun h=>h.2,fun h=>⟨by obtain⟨t,h1,_,h3⟩:=h;exact⟨t,h1,h3⟩,h⟩⟩
 rw [←normT_of (hnd.filter _) hk hperm]
 exact sortBy_unique ord_tup (.refl _) hs
end Go.Proofs.YtkddkbpoefidpaaGreatDoor
namespace Go.Proofs.YtkddkbpoefidpaaGreatDoor
open Go.RowKit Go.Shelf
attribute [local go_sem] Oper.semAt_some
def uptoF {α:Type} (f:Nat→α) (k:Nat):List α:=(List.range k).map f
def IntsAt (n₀:Nat) (W:World) (sv:Value) (zs:List Int):Prop :=
 ((∃p c,sv = .slice p 0 c)∧zs = [])∨ ∃b off cap,sv = .slice (some ⟨b,off,none⟩) zs.length cap∧b<n₀∧ ∀j,j<zs.length→W.cell? ⟨b,off+j,none⟩=some (.int .i64 (zs[j]?.getD 0))
def sortI (zs:List Int):List Int:=zs.mergeSort fun x y=>decide (x≤y)
end Go.Proofs.YtkddkbpoefidpaaGreatDoor
namespace Go.Proofs.YtkddkbpoefidpaaGreatDoor
open Go.RowKit
end Go.Proofs.YtkddkbpoefidpaaGreatDoor
namespace Go.Proofs.YtkddkbpoefidpaaGreatDoor
open Go.RowKit
def binUpto (G:Int→List Row) (P:List Int):Nat→List Tup
 |0=> []
 |i+1=>binUpto G P i++(G P[i]!).map fun r=>tupOf r ⟨P[i]!,P[i+1]!⟩
theorem piece_slice (rs:List Row) (x y t:Int) (h:validB x y=true):sliceRows (rs.map fun r=>tupOf r ⟨x,y⟩) t=if x≤t∧t<y then rs else []:=by
 induction rs with
 |nil=>split <;> rfl
 |cons r rs ih =>
  rw [List.map_cons,show tupOf r ⟨x,y⟩::rs.map (fun r=>tupOf r ⟨x,y⟩) = [tupOf r ⟨x,y⟩]++rs.map (fun r=>tupOf r ⟨x,y⟩)from rfl,sliceRows_append,ih]
  have hh:holdsAt t (tupOf r ⟨x,y⟩)=decide (x≤t∧t<y):=by
   unfold holdsAt
   rw [show validT (tupOf r ⟨x,y⟩)=true from h,Bool.true_and,Bool.eq_iff_iff]
   simp only [Bool.and_eq_true,decide_eq_true_eq]
   exact Iff.rfl
  unfold sliceRows
  rw [List.filter_cons,List.filter_nil,hh]
  by_cases c:x≤t∧t<y
  ·rw [if_pos c,if_pos (decide_eq_true c),if_pos c];rfl
  ·rw [if_neg c,if_neg (by simpa using c),if_neg c];rfl
theorem pts_valid {P:List Int} (hP:P.Pairwise (· < ·)) (hr : ∀x∈P,0≤x∧x≤1099511627776) {i:Nat} (hi:i+1<P.length):validB P[i]! P[i+1]! = true:=by
 have a1:=asc_at hP (show i<i+1 by omega) hi
 have a2:=hr P[i]! (by rw [getElem!_pos P i (by omega)];exact List.getElem_mem _)
 have a3:=hr P[i+1]! (by rw [getElem!_pos P (i+1) (by omega)];exact List.getElem_mem _)
 unfold validB
 simp only [Bool.and_eq_true,decide_eq_true_eq]
 omega
theorem bin_at (G:Int→List Row) {P:List Int} (hP:P.Pairwise (· < ·)) (hr : ∀x∈P,0≤x∧x≤1099511627776) (t:Int) (k:Nat) (hk:k≤P.length - 1) :
  (∀i,i<k→P[i]! ≤t→t<P[i+1]! →sliceRows (binUpto G P k) t=G P[i]!)∧((∀i,i<k→ ¬(P[i]! ≤t∧t<P[i+1]!))→sliceRows (binUpto G P k) t = []):=by
 induction k with
 |zero=>exact⟨fun i h=>absurd h (Nat.not_lt_zero _),fun _=>rfl⟩
 |succ k ih =>
  obtain⟨h1,h2⟩:=ih (by omega)
  have hs:sliceRows (binUpto G P (k+1)) t=sliceRows (binUpto G P k) t++if P[k]! ≤t∧t<P[k+1]! then G P[k]! else []:=by
   show sliceRows (binUpto G P k++_) t=_
   rw [sliceRows_append,piece_slice _ _ _ _ (pts_valid hP hr (by omega))]
  rw [hs]
  refine⟨fun i hi g1 g2=> ?_,fun g=> ?_⟩
  ·by_cases e:i=k
   ·subst e
    rw [h2 (fun i' hi' ⟨g3,g4⟩=>by
     have:P[i'+1]! ≤P[i]! := by
      by_cases e2:i'+1=i
      ·rw [e2];exact Int.le_refl _
      ·have:=asc_at hP (show i'+1<i by omega) (by omega);omega
     omega),if_pos ⟨g1,g2⟩,List.nil_append]
   ·rw [h1 i (by omega) g1 g2,if_neg (fun⟨g3,g4⟩=>by
     have:P[i+1]! ≤P[k]! := by
      by_cases e2:i+1=k
      ·rw [e2];exact Int.le_refl _
      ·have:=asc_at hP (show i+1<k by omega) (by omega);omega
     omega),List.append_nil]
  ·rw [h2 fun i hi=>g i (by omega),if_neg (g k (by omega)),List.nil_append]
theorem gap_or {P:List Int} (t:Int) : ∀n,n≤P.length - 1→(∃i,i<n∧P[i]! ≤t∧t<P[i+1]!)∨(t<P[0]! ∨P[n]! ≤t):=by
 intro n
 induction n with
 |zero=>intro _;right;omega
 |succ n ih =>
  intro hn
  rcases ih (by omega)with ⟨i,h1,h2⟩ | h
  ·exact .inl ⟨i,by omega,h2⟩
  ·rcases h with h | h
   ·exact .inr (.inl h)
   ·by_cases c:P[n+1]! ≤t
    ·exact .inr (.inr c)
    ·exact .inl ⟨n,by omega,h,by omega⟩
noncomputable def refBin (g:List Row→List Row→List Row) (a b:List Tup):List Tup:=binUpto (fun x=>g (sortBy cmpRow (sliceRows a x)) (sortBy cmpRow (sliceRows b x))) (pts (a++b)) ((pts (a++b)).length - 1)
def GapT (Q:List Int) (y:Tup):Prop:=y.from_∈Q∧y.to_∈Q∧y.from_<y.to_∧ ∀q∈Q,q≤y.from_∨y.to_≤q
open Classical in
noncomputable def alignRow (tr:List Val→Bool) (B:List Tup) (x:Tup):List Tup:=((B.filter fun y=>decide (tupPer y=tupPer x)).map fun y=>tupOf (pairRow (tupRow x) (tupRow y)) (tupPer x)).filter fun z=>tr z.vals
noncomputable def alignRaw (tr:List Val→Bool) (A B:List Tup):List Tup:=A.flatMap (alignRow tr B)
end Go.Proofs.YtkddkbpoefidpaaGreatDoor
