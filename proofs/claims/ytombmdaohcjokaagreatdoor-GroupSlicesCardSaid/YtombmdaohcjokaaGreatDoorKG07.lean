/- joined texts of a proof: NormW, GrpI, GenA -/
import Derived.Test.YtombmdaohcjokaaGreatDoorKG05
import Derived.Test.YtombmdaohcjokaaGreatDoorKG06
import Derived.Maps.Own
import Derived.Test.YtombmdaohcjokaaGreatDoorKG03
import Derived.Test.YtombmdaohcjokaaGreatDoorKG04
import Derived.Laws.OwnMore
import Derived.Test.YtombmdaohcjokaaGreatDoorKG02
import Derived.Test.YtombmdaohcjokaaGreatDoorKG01
namespace Go.Proofs.YtombmdaohcjokaaGreatDoor
open Go.RowKit Go.Maps
theorem MapV.ext {w w':World} {P:Program} {k:TypeId} {S:Value→Prop} {b n:Nat} {m:Lit→Option Value} (h:MapV w P k S b n m) (hx:Ext w w'):MapV w' P k S b n m:=h.kept (Ext.grows hx) (by simp)
theorem NInv.ext {w w' w'':World} {base:Nat} {T:TypeId} {l:List Tup} {m1 m2:Lit→Option Value} (h:NInv w w' base T l m1 m2) (hx:Ext w' w''):NInv w w'' base T l m1 m2:=h.keep (Ext.grows hx) (fun k hk=>by cases hk)
theorem RangeV.ext {w w':World} {P:Program} {k:TypeId} {S:Value→Prop} {b r n:Nat} {m:Lit→Option Value} {left:Lit→Bool} {cnt:Nat} (h:RangeV w P k S b r n m left cnt) (hx:Ext w w'):RangeV w' P k S b r n m left cnt:=h.kept (Ext.grows hx) (by simp) (by simp)
theorem ext_grown {a w w':World} {row:Option Nat} (h:Ext a w) (gr:w.grownBy w' row) (hr : ∀k,row=some k→a.heap.size≤k):Ext a w':=Below.grown h gr h.size hr
theorem cell_grown {w w':World} {row:Option Nat} {b o:Nat} {v:Value} (gr:w.grownBy w' row) (hc:w.cell? ⟨b,o,none⟩=some v) (hne : ∀k,row=some k→k≠b):w'.cell? ⟨b,o,none⟩=some v :=
 (World.cell?_of_block (w:=w) (gr.block b (cell_lt hc) (fun e=>hne b e.symm rfl))).trans hc
theorem off_grow {w w':World} {u:Value} {g a b:Nat} (gr:w.grownBy w' u.ownBlock) (hg:u.ownBlock=some g∨g=w.heap.size):Sub (on w (fun x=>u.ownBlock≠some x)) (on w' (fun x=>(Value.slice (some ⟨g,0,none⟩) a b).ownBlock≠some x)):=fun p v e=>by
 obtain⟨h1,h2⟩:=on_some.1 e
 have hlt:=World.block_lt_of_cell? w p h2
 refine on_some.2 ⟨fun e2=> ?_,(World.cell?_of_block (w:=w) (gr.block p.block hlt (fun e3=>h1 e3.symm))).trans h2⟩
 have e2:g=p.block:=Option.some.inj e2
 rcases hg with h | h
 ·exact h1 (by rw [←e2];exact h)
 ·omega
theorem key_str (l:List UInt8) (h:l.length≤maxLen):keyOf Tryz.prog 9 (.string ⟨l.toArray⟩)=some (.string l):=by
 rw [keyOf_string Tryz.underlying9]
 unfold mapKey
 rw [Tryz.underlying9]
 simp [ByteArray.size,h]
theorem info_tupN:(Tryz.prog.info? 125).map (fun i=>(i.zero,i.size,i.bytes))=some (some (.agg #[.slice none 0 0,.int .i64 0,.int .i64 0,.slice none 0 0]),Rep.tup.size,64):=by kernel_rfl
theorem zero_slP (w:World):(zeroValue 149).run Tryz.prog w = .ok (.slice none 0 0) w:=by kernel_rfl
def fitN (l:List Tup):Prop:=l.length≤65536∧ ∀t∈l,fitVals t.vals∧t.lin.length≤1048576
theorem keyRow_len {h1:View} {v:Value} {r:Row} (k:SliceOf Rep.val h1 v r.vals) (hl : ∀x∈r.lin,-9223372036854775808≤x∧x≤9223372036854775807) (hf:fitVals r.vals) (hf2:r.lin.length≤1048576):(keyRow r).length≤maxLen:=by
 have h2:=keyVals_len (vals_range k) hf.2
 have h3:=itoa_len (r.vals.length:Int) (by omega) (by have:=hf.1;omega)
 have h4 : ∀l:List Int,(∀x∈l,-9223372036854775808≤x∧x≤9223372036854775807)→(keyLin l).length≤22*l.length:=by
  intro l
  induction l with
  |nil=>intro _;exact Nat.zero_le _
  |cons x l ih =>
   intro h
   have:=ih fun y hy=>h y (by simp [hy])
   have:=itoa_len x (h x (by simp)).1 (h x (by simp)).2
   unfold keyLin at *
   rw [List.flatMap_cons,List.length_append,List.length_cons,List.length_cons]
   omega
 have h5:=h4 r.lin hl
 have h6:=hf.1
 unfold keyRow maxLen
 simp only [List.length_append,List.length_cons]
 omega
theorem ints_range {h:View} {v:Value} {xs:List Int} (k:SliceOf Rep.int h v xs) : ∀x∈xs,-9223372036854775808≤x∧x≤9223372036854775807:=by
 intro x hx
 obtain⟨i,hi,rfl⟩:=List.getElem_of_mem hx
 obtain⟨p,cap,rfl,_,_,hp⟩:=k.form
 obtain⟨b,o,rfl⟩:=hp (by decide) (by omega)
 exact(int_at k i hi).2
theorem persOf_len (r:Row) (l:List Tup):(persOf r l).length≤l.length:=by
 unfold persOf
 rw [List.length_map]
 exact Nat.le_trans (List.length_filter_le _ _) (List.length_filter_le _ _)
theorem levOf_len {P:List Int} {f:Nat→Nat} {n:Nat} (hf : ∀i,f i≤n) (k:Nat):(levOf P f k).2.length≤n*k∧(levOf P f k).1.length≤n:=by
 induction k with
 |zero=>exact⟨Nat.zero_le _,Nat.zero_le _⟩
 |succ k ih =>
  unfold levOf
  refine⟨?_,by rw [levStep_len];exact hf k⟩
  unfold levStep
  simp only [List.length_append,List.length_map,List.length_reverse,List.length_drop]
  rw [Nat.mul_succ]
  omega
theorem levels_len (ps:List Per):(levels ps).length≤ps.length*(2*ps.length):=by
 have h1:=(levOf_len (P:=levPts ps) (f:=levF ps) (n:=ps.length) (fun i=>by unfold levF cntAt;exact Nat.le_trans (List.length_filter_le _ _) (by simp)) (levPts ps).length).1
 have h2:(levPts ps).length≤2*ps.length:=by
  have h3:=(pts_law (ps.map perT)).2.2
  have h5:=bnd_len (ps.map perT)
  rw [List.length_map]at h5
  exact Nat.le_trans h3 h5
 exact Nat.le_trans h1 (Nat.mul_le_mul_left _ h2)
theorem normRaw_len (done:List Row) (l:List Tup):(normRaw done l).length≤done.length*(l.length*(2*l.length)):=by
 induction done with
 |nil=>exact Nat.zero_le _
 |cons r done ih =>
  unfold normRaw at *
  rw [List.flatMap_cons,List.length_append,List.length_map,List.length_cons,Nat.succ_mul]
  have h1:=levels_len (persOf r l)
  have h2:=persOf_len r l
  have h3:(persOf r l).length*(2*(persOf r l).length)≤l.length*(2*l.length):=Nat.mul_le_mul h2 (Nat.mul_le_mul_left _ h2)
  omega
open Classical in
theorem filt_sum {α β:Type} (f:α→β) : ∀(done:List β) (l:List α),done.Nodup→(done.map fun r=>(l.filter fun t=>decide (f t=r)).length).sum≤l.length:=by
 intro done
 induction done with
 |nil=>intro l _;exact Nat.zero_le _
 |cons r done ih =>
  intro l hnd
  obtain⟨h1,h2⟩:=List.nodup_cons.1 hnd
  have h3:=ih (l.filter fun t=> !decide (f t=r)) h2
  have h4:(done.map fun s=>((l.filter fun t=> !decide (f t=r)).filter fun t=>decide (f t=s)).length)=done.map fun s=>(l.filter fun t=>decide (f t=s)).length:=by
   refine List.map_congr_left fun s hs=> ?_
   have hne:s≠r:=fun e=>h1 (e▸hs)
   rw [List.filter_filter]
   congr 2
   funext t
   by_cases h:f t=s
   ·simp [h,hne]
   ·simp [h]
  rw [h4]at h3
  have h5 : ∀m:List α,(m.filter fun t=>decide (f t=r)).length+(m.filter fun t=> !decide (f t=r)).length=m.length:=fun m=>by
   induction m with
   |nil=>rfl
   |cons y m ih =>
    rw [List.filter_cons,List.filter_cons]
    by_cases h:f y=r
    ·simp only [h,decide_true,Bool.not_true,if_true,Bool.false_eq_true,if_false,List.length_cons];omega
    ·simp only [h,decide_false,Bool.not_false,if_true,Bool.false_eq_true,if_false,List.length_cons];omega
  have h6:=h5 l
  rw [List.map_cons,List.sum_cons]
  omega
open Classical in
theorem normRaw_len2 {done:List Row} (l:List Tup) (hnd:done.Nodup):(normRaw done l).length≤2*l.length*l.length:=by
 have h : ∀ks:List Row,(normRaw ks l).length≤2*l.length*(ks.map fun r=>(persOf r l).length).sum:=fun ks=>by
  induction ks with
  |nil=>exact Nat.zero_le _
  |cons r ks ih =>
   unfold normRaw at *
   rw [List.flatMap_cons,List.length_append,List.length_map,List.map_cons,List.sum_cons,Nat.mul_add]
   have h1:=levels_len (persOf r l)
   have h2:=persOf_len r l
   have h3:(persOf r l).length*(2*(persOf r l).length)≤(2*l.length)*(persOf r l).length:=by
    rw [Nat.mul_comm]
    exact Nat.mul_le_mul_right _ (Nat.mul_le_mul_left _ h2)
   omega
 have h2:(done.map fun r=>(persOf r l).length).sum≤l.length:=by
  have h3:=filt_sum tupRow done (l.filter validT) hnd
  have h4:(done.map fun r=>(persOf r l).length)=done.map fun r=>((l.filter validT).filter fun t=>decide (tupRow t=r)).length:=by
   refine List.map_congr_left fun r _=> ?_
   unfold persOf
   rw [List.length_map]
  rw [h4]
  exact Nat.le_trans h3 (List.length_filter_le _ _)
 exact Nat.le_trans (h done) (Nat.mul_le_mul_left _ h2)
theorem normRaw_snoc (done:List Row) (r:Row) (l:List Tup):normRaw (done ++ [r]) l=normRaw done l++(levels (persOf r l)).map (tupOf r):=by
 unfold normRaw
 rw [List.flatMap_append,List.flatMap_cons,List.flatMap_nil,List.append_nil]
theorem own_grown {α:Type} {R:Rep α} {w w':World} {row:Option Nat} {S:Nat→Prop} {base:Nat} {e:TypeId} {v:Value} {xs:List α} (h:OwnOf R w S base e v xs) (gr:w.grownBy w' row) (hS : ∀k,S k→row≠some k) (hv : ∀k,v.ownBlock=some k→row≠some k):OwnOf R w' S base e v xs:=by
 obtain⟨css,h1,h2⟩:=h
 refine⟨css,h1.ext (grown_sub gr fun k hk e=>hS k hk.2 e.symm),h2.kept gr ?_⟩
 cases hb:v.ownBlock with
 |none=>exact .inl rfl
 |some k=>exact .inr fun e=>hv k hb e.symm
set_option maxRecDepth 100000 in
set_option maxHeartbeats 16000000 in
theorem normalize_any (v:Value) (l:List Tup) (w:World) (hv:SliceOf Rep.tup w.cell? v l) (hf:fitN l) (ht:TabW w) :
  Calls Tryz.prog 85 #[v] w fun e w'=> ∃v',e = .returned v'∧SliceOf Rep.tup (on w' (since w)) v' (normT l)∧Ext w w':=by
 obtain⟨i1,hi1,hz10,hz11,hz12⟩:=info_parts info_per
 obtain⟨i2,hi2,hz20,hz21,hz22⟩:=info_parts info_tupN
 have hmm:= @run_makeMap Tryz.prog
 obtain⟨p,cap,rfl,hc1,hc2,hp⟩:=hv.form
 obtain⟨N,hN⟩ : ∃N,N=l.length:=⟨_,rfl⟩
 have HV:=Lib.hid hv
 rw [←hN]
 have HN:=Lib.hid hN
 have HP:=Lib.hid hp
 have HF:=Lib.hid hf
 have HT:=Lib.hid ht
 have hNl:N≤65536:=by rw [hN];exact hf.1
 clear hv hN hp hc1 hc2 hf ht
 go_enter Tryz.func85,Tryz.ntmps85
 go_wp2_with fail
 obtain⟨b1,hb1⟩ : ∃b,b=w.heap.size:=⟨_,rfl⟩
 have HB1:=Lib.hid hb1
 have hM1:=MapV.made w Tryz.prog 9 ShRow
 have hM2:=MapV.made (w.alloc (.map #[] 0)) Tryz.prog 9 ShSl
 rw [show (w.alloc (.map #[] 0)).heap.size=w.heap.size+1 by simp]at hM2
 rw [←hb1]at hM1 hM2 ⊢
 go_loopg [17] N (fun gk vi wr=> ∃(k:Nat) (m1 m2:Lit→Option Value),k≤N∧gk=N - k∧vi = .int .i64 k∧Hid (MapV wr Tryz.prog 9 ShRow b1 k m1)∧Hid (MapV wr Tryz.prog 9 ShSl (b1+1) k m2)∧Hid (NInv w wr (b1+2) 123 (l.take k) m1 m2)∧Hid (b1+2≤wr.heap.size)∧Ext w wr)
 case atStart=>exact⟨0,_,_,by omega,rfl,rfl,hM1.alloc _,hM2,NInv.nil _ _ _ _,by show b1+2≤_;simp;omega,((Ext.refl w).alloc _).alloc _⟩
 case round =>
  clear hM1 hM2 hb1
  obtain⟨k,m1,m2,hk,rfl,rfl,M1,M2,NI,HSZ,hx⟩:=hrel
  by_cases hlt:k<N
  ·have hkl:k<l.length:=by have:=HN.out;omega
   have hd:decide ((k:Int)<(N:Int))=true:=by simp;omega
   obtain⟨b,o',rfl⟩:=HP.out (by decide) (by omega)
   have hv:=HV.out
   rw [←HN.out]at hv
   obtain⟨ta,tb,c0,c1,c2,c3,g0,g1,r1,r2⟩:=tup_at hv k hkl
   obtain⟨pa,ka,ta',_⟩:=g0.form
   obtain⟨pb,kb,tb',_⟩:=g1.form
   subst ta' tb'
   replace c0:=hx.at c0
   replace c1:=hx.at c1
   replace c2:=hx.at c2
   replace c3:=hx.at c3
   have hst:l.take (k+1)=l.take k ++ [l[k]]:=List.take_succ_eq_append_getElem hkl
   have hft:=HF.out.2 l[k] (List.getElem_mem hkl)
   generalize l[k]=y at c0 c1 c2 c3 g0 g1 r1 r2 hst hft
   obtain⟨vs,f,t,ln⟩:=y
   dsimp only at c0 c1 c2 c3 g0 g1 r1 r2 hst hft
   have HST:=Lib.hid hst
   have G0:=Lib.hid g0
   have G1:=Lib.hid g1
   have HFT:=Lib.hid hft
   have HR:=Lib.hid (show okI f∧okI t from ⟨r1,r2⟩)
   have e0:=cell_lt c0
   have HKL:=Lib.hid (keyRow_len (r:=⟨vs,ln⟩) g0 (ints_range g1) hft.1 hft.2)
   clear hst g0 g1 r1 r2 hv hft
   go_wp2_with fail
   refine(valid_any f t _).mono ?_
   rintro e w1 ⟨rfl,x1⟩
   have d0:w1.cell? ⟨wr.heap.size,0,none⟩=some (.slice pa vs.length ka):=x1.at (by go_simp)
   have d1:w1.cell? ⟨wr.heap.size,1,none⟩=some (.int .i64 f):=x1.at (by go_simp)
   have d2:w1.cell? ⟨wr.heap.size,2,none⟩=some (.int .i64 t):=x1.at (by go_simp)
   have d3:w1.cell? ⟨wr.heap.size,3,none⟩=some (.slice pb ln.length kb):=x1.at (by go_simp)
   have X1:=Lib.hid (show Ext wr w1 from ((Ext.refl wr).alloc _).trans x1)
   clear x1 c0 c1 c2 c3 e0
   cases hvb:validB f t with
   |true =>
    have HVB:=Lib.hid hvb
    have e1:=cell_lt d0
    clear hvb
    go_wp2_with fail
    refine(rowKey_any pa pb ka kb f t vs ln _ (G0.out.ext (hx.trans X1.out).full) (G1.out.ext (hx.trans X1.out).full) HFT.out.1 HFT.out.2 (HT.out.ext (hx.trans X1.out))).mono ?_
    rintro e w2 ⟨rfl,x2⟩
    replace d0:=x2.at d0
    replace d1:=x2.at d1
    replace d2:=x2.at d2
    replace d3:=x2.at d3
    have X2:=Lib.hid (X1.out.trans x2)
    have e2:=cell_lt d0
    clear x2 X1 e1
    go_wp2_with fail
    refine(tup_row pa pb vs.length ka ln.length kb f t _).mono ?_
    rintro e w3 ⟨rfl,x3⟩
    replace d1:=x3.ext.at d1
    replace d2:=x3.ext.at d2
    have X3:=Lib.hid (X2.out.trans x3.ext)
    have e3:=cell_lt d1
    have HW3:=Lib.hid (show b1+2≤wr.heap.size∧wr.heap.size≤w3.heap.size from ⟨HSZ.out,X3.out.size⟩)
    have M13:=Lib.hid (M1.out.ext X3.out)
    have M23:=Lib.hid (M2.out.ext X3.out)
    have NI3:=Lib.hid (NI.out.ext X3.out)
    have hx3:=hx.trans X3.out
    clear x3 X2 e2 d0 d3 M1 M2 NI hx X3
    go_wp2_with (at_mapUpdate;refine wpList_store_v _ rfl _ _ _ 204 rfl 9 58 (string_keyed Tryz.underlying9) Tryz.underlying204 ShRow b1 k m1 rfl M13.out (by unfold maxLen;omega) _ _ (keyL ⟨vs,ln⟩) rfl rfl (key_str _ HKL.out) ⟨⟨pa,vs.length,ka,pb,ln.length,kb⟩,rfl⟩ ?_)
    intro w4 m4 gr4
    have hb1w : ∀x,(some b1:Option Nat)=some x→x=b1:=fun x e=>(Option.some.inj e).symm
    have M14:=Lib.hid m4
    have M24:=Lib.hid (M23.out.kept gr4 (by simp))
    have NI4:=Lib.hid (NI3.out.keep gr4 (fun x e=>by have:=hb1w x e;omega))
    replace d1:=cell_grown gr4 d1 (fun x e=>by have:=hb1w x e;have:=HW3.out;omega)
    replace d2:=cell_grown gr4 d2 (fun x e=>by have:=hb1w x e;have:=HW3.out;omega)
    have X4:=Lib.hid (ext_grown hx3 gr4 (fun x e=>by have:=hb1w x e;have:=HB1.out;omega))
    have HW4:=Lib.hid (show b1+2≤w4.heap.size from Nat.le_trans (by have:=HW3.out;omega) gr4.size)
    have e4:=cell_lt d1
    clear m4 gr4 M13 M23 NI3 hx3 e3 HW3 hb1w
    go_wp2_with (at_lookup;refine wpList_lookup_v _ rfl _ _ 205 rfl 9 149 (string_keyed Tryz.underlying9) Tryz.underlying205 (.slice none 0 0) (zero_slP _) ShSl ⟨_,_,_,rfl⟩ (b1+1) k m2 rfl M24.out _ (keyL ⟨vs,ln⟩) rfl (key_str _ HKL.out) ?_)
    intro vp HVP hsp
    have own4:=NI4.out.own ⟨vs,ln⟩
    rw [←HVP.out]at own4
    obtain⟨p9,n9,c9,rfl⟩:=hsp
    have OW4:=Lib.hid own4
    have hpl:=persOf_len ⟨vs,ln⟩ (l.take k)
    have hpl2:(persOf ⟨vs,ln⟩ (l.take k)).length≤65536:=Nat.le_trans hpl (Nat.le_trans (List.length_take_le _ _) (by omega))
    obtain⟨pl,hpl3⟩ : ∃x,x=persOf ⟨vs,ln⟩ (l.take k):=⟨_,rfl⟩
    rw [←hpl3]at OW4 hpl2
    have HPL:=Lib.hid hpl3
    have B1:pl.length+1≤maxLen:=by unfold maxLen;omega
    have B2:(pl.length+1)*16≤140737488355328:=by omega
    clear own4 hpl hpl3
    go_wp2_with (at_builtin;refine wpList_append_one Rep.per (fun _=>True) rfl _ _ 149 rfl (b1+2) 123 i1 _ 16 Tryz.underlying149 hi1 hz10 hz11 hz12 rfl (by decide) (.slice p9 n9 c9) pl rfl (OW4.out.ext ((Ext.refl w4).alloc _)) ⟨w4.heap.size,0,none⟩ 1 ⟨f,t⟩ [.int .i64 f,.int .i64 t] rfl ⟨rfl,HR.out⟩ (by exact cells_new w4 [.int .i64 f,.int .i64 t] _) B1 B2 (Nat.le_trans HW4.out ((Ext.refl w4).alloc _).size) ?_)
    intro g5 cap5 w5 own5 gr5 hg5
    have hbase5 : ∀x,(Value.slice p9 n9 c9).ownBlock=some x→b1+2≤x:=fun x e=>(OW4.out.lt x e).1
    have NI5:=Lib.hid (NInv.step (NI4.out.ext ((Ext.refl w4).alloc (.cells #[.int .i64 f,.int .i64 t] 123))) (t:=⟨vs,f,t,ln⟩) HVB.out (x:=⟨pa,vs.length,ka,pb,ln.length,kb⟩) ⟨rfl,rfl,G0.out,G1.out⟩ (g:=g5) (a:=pl.length+1) (b:=cap5) (by show OwnOf Rep.per _ _ _ _ _ (persOf ⟨vs,ln⟩ (l.take k)++_);rw [←HPL.out];exact own5) (by show World.grownBy _ _ (Option.getD (m2 (keyL ⟨vs,ln⟩)) _).ownBlock;rw [←HVP.out];exact gr5) (by show (Option.getD (m2 (keyL ⟨vs,ln⟩)) _).ownBlock=_∨_;rw [←HVP.out];rcases hg5 with h | h;exact .inl h;exact .inr (by rw [h];simp)))
    have M15:=Lib.hid ((M14.out.ext ((Ext.refl w4).alloc _)).kept gr5 (fun e=>by have:=hbase5 _ e.symm;omega))
    have M25:=Lib.hid ((M24.out.ext ((Ext.refl w4).alloc _)).kept gr5 (fun e=>by have:=hbase5 _ e.symm;omega))
    have X5:=Lib.hid (ext_grown (X4.out.alloc _) gr5 (fun x e=>by have:=hbase5 x e;have:=HB1.out;omega))
    have HW5:=Lib.hid (show b1+2≤w5.heap.size from Nat.le_trans HW4.out (Nat.le_trans ((Ext.refl w4).alloc _).size gr5.size))
    clear own5 gr5 hg5 hbase5 NI4 M14 M24 X4 HW4 d1 d2 e4 OW4 HVP
    go_wp2_with (at_mapUpdate;refine wpList_store_v _ rfl _ _ _ 205 rfl 9 149 (string_keyed Tryz.underlying9) Tryz.underlying205 ShSl (b1+1) k m2 rfl M25.out (by unfold maxLen;omega) _ _ (keyL ⟨vs,ln⟩) rfl rfl (key_str _ HKL.out) ⟨_,_,_,rfl⟩ ?_)
    intro w6 m6 gr6
    have hb2w : ∀x,(some (b1+1):Option Nat)=some x→x=b1+1:=fun x e=>(Option.some.inj e).symm
    have M26:=Lib.hid m6
    have M16:=Lib.hid (M15.out.kept gr6 (by simp))
    have NI6:=Lib.hid (NI5.out.keep gr6 (fun x e=>by have:=hb2w x e;omega))
    have X6:=Lib.hid (ext_grown X5.out gr6 (fun x e=>by have:=hb2w x e;have:=HB1.out;omega))
    have HW6:=Lib.hid (show b1+2≤w6.heap.size from Nat.le_trans HW5.out gr6.size)
    clear m6 gr6 M15 M25 NI5 X5 HW5 hb2w
    go_wp2_with fail
    go_roundg (N - (k+1))
    case measure=>omega
    case rel=>exact⟨k+1,_,_,by omega,rfl,by go_num,M16.out,M26.out,by rw [HST.out];exact NI6.out,HW6.out,X6.out⟩
   |false =>
    have HVB:=Lib.hid hvb
    clear hvb d0 d1 d2 d3
    go_wp2_with fail
    go_roundg (N - (k+1))
    case measure=>omega
    case rel=>exact⟨k+1,m1,m2,by omega,rfl,by go_num,(M1.out.ext X1.out).mono (Nat.le_succ k),(M2.out.ext X1.out).mono (Nat.le_succ k),by rw [HST.out];exact(NI.out.ext X1.out).skip HVB.out,Nat.le_trans HSZ.out X1.out.size,hx.trans X1.out⟩
  ·have hkN:k=N:=by omega
   have hd : ¬(k:Int)<(N:Int):=by omega
   subst hkN
   have NIL:=Lib.hid (show NInv w wr (b1+2) 123 l m1 m2 from by
    have h:=NI.out
    rw [HN.out,List.take_length]at h
    exact h)
   clear NI hk
   go_wp2_with (at_range;refine wpList_range_v _ rfl _ 204 rfl 9 58 (string_keyed Tryz.underlying9) Tryz.underlying204 ShRow b1 k m1 rfl M1.out ?_)
   intro w2 left0 cnt0 rg2 hleft0 hcnt0 gr2 sz2
   obtain⟨rb,hrb⟩ : ∃r,r=wr.heap.size:=⟨_,rfl⟩
   rw [←hrb]at rg2 ⊢
   have RG2:=Lib.hid rg2
   have M22:=Lib.hid (M2.out.kept gr2 (by simp))
   have NI2:=Lib.hid (NIL.out.keep gr2 (fun k hk=>by cases hk))
   have X2:=Lib.hid (ext_grown hx gr2 (fun x e=>by cases e))
   have HRB:=Lib.hid (show w.heap.size+2≤rb∧b1+2≤rb∧rb<w2.heap.size from ⟨by have:=HB1.out;have:=HSZ.out;omega,by rw [hrb];exact HSZ.out,by rw [sz2,hrb];omega⟩)
   have HLF:=Lib.hid hleft0
   have HM2B:=Lib.hid (show ∀kl v x,m2 kl=some v→v.ownBlock=some x→x<rb from fun kl v x hm hx=>by rw [hrb];exact NIL.out.below kl v x hm hx)
   clear rg2 hrb hx gr2 sz2 M1 M2 NIL HSZ hleft0
   go_wp2_with fail
   go_loopg [8] k (fun gk vo wr=> ∃(left:Lit→Bool) (cnt:Nat) (done:List Row) (u:Value),cnt≤gk∧u=vo∧Hid (RangeV wr Tryz.prog 9 ShRow b1 rb k m1 left cnt)∧Hid (MapV wr Tryz.prog 9 ShSl (b1+1) k m2)∧Hid (NInv w wr (b1+2) 123 l m1 m2)∧Hid (DoneR m1 left done)∧Hid (done.length+cnt≤k)∧Hid (OwnOf Rep.tup wr (fun x=>rb<x) (rb+1) 125 u (normRaw done l))∧Hid (rb<wr.heap.size)∧Hid (Ext w wr))
   case atStart=>exact⟨left0,cnt0,[],_,hcnt0,rfl,RG2.out,M22.out,NI2.out,DoneR.start HLF.out,by show 0+cnt0≤k;omega,OwnOf.nil _ _ _ _ _,HRB.out.2.2,X2.out⟩
   case round =>
    clear RG2 M22 NI2 X2
    obtain⟨left,cnt,done,u,hgk,rfl,RG,M2,NI,DO,HDL,OU,HRW,HX⟩:=hrel
    have HUB:=Lib.hid (show ∀x,u.ownBlock=some x→rb+1≤x from fun x hx=>(OU.out.lt x hx).1)
    have hnl:(normRaw done l).length≤137438953472:=by
     have h1:=normRaw_len2 l DO.out.1
     have h2:=HDL.out
     have h3:=HN.out
     have h4:2*l.length*l.length≤2*65536*65536:=Nat.mul_le_mul (Nat.mul_le_mul_left _ (by omega)) (by omega)
     omega
    have HNL:=Lib.hid hnl
    clear hnl
    go_wp2_with (at_next;refine wpList_next_v _ rfl _ rfl 9 Tryz.underlying9 (string_keyed Tryz.underlying9) ShRow mkRow (fun v h=>h) b1 rb k m1 left cnt rfl RG.out ?_ ?_)
    ·intro hc0 hl0
     have HALL:=Lib.hid (DO.out.all NI.out hl0)
     clear hl0 hc0 RG M2 hgk
     go_wp2_with fail
     refine(sort_tups_call _ _ _ _ _ (normRaw done l) OU.out (by have:=HNL.out;omega)).mono ?_
     rintro e w4 ⟨rfl,own4,gr4⟩
     have hfin:sortBy cmpTup (normRaw done l)=normT l:=normT_of DO.out.1 HALL.out (List.Perm.refl _)
     rw [hfin]at own4
     have X4:=Lib.hid (ext_grown HX.out gr4 (fun x e=>by have:=HUB.out x e;have:=HRB.out;omega))
     have OW:=Lib.hid own4
     clear own4 gr4 hfin
     go_wp2_with fail
     go_ret
     exact⟨u,rfl,OW.out.sliceIn (fun x _ hx=>by have:=HRB.out;show w.heap.size≤x;omega) (fun x hx=>by have:=HRB.out;show w.heap.size≤x;omega),X4.out⟩
    ·intro x c w1 cnt1 hkey hlk hmp hS hrg hlt hg1 hs1 hen
     obtain⟨t0,ht0,hvt0,hkl0,x',hx',hrv⟩:=NI.out.k1 _ _ hmp
     obtain⟨r,hr⟩ : ∃r,r=tupRow t0:=⟨_,rfl⟩
     rw [←hr]at hkl0 hrv
     have hcx:c=x':=by
      unfold mkRow at hx'
      injection hx' with h1
      have h2:=congrArg (fun a:Array Value=>a.toList) h1
      simp only [List.cons.injEq,Value.slice.injEq,and_true]at h2
      obtain⟨cp,cn,cc,cq,cm,cd⟩:=c
      obtain⟨xp,xn,xc,xq,xm,xd⟩:=x'
      simp only at h2
      obtain⟨⟨rfl,rfl,rfl⟩,rfl,rfl,rfl⟩:=h2
      rfl
     subst hcx
     have hmk:(m1 (keyL r)).isSome=true:=by rw [←hkl0,hmp];rfl
     rw [hkl0]at hrg hlk hkey
     have DO2:=Lib.hid (DO.out.step hmk hlk)
     have HDL2:=Lib.hid (show (done ++ [r]).length+cnt1≤k from by have:=HDL.out;rw [List.length_append,List.length_singleton];omega)
     obtain⟨cp,cn,cc,cq,cm,cd⟩:=c
     obtain⟨hcn,hcm,hv1,hv2⟩:=hrv
     simp only at hcn hcm hv1 hv2
     subst hcn hcm
     have HV1:=Lib.hid hv1
     have HV2:=Lib.hid hv2
     have HFR:=Lib.hid (show fitVals r.vals∧r.lin.length≤1048576 from by rw [hr];exact HF.out.2 t0 ht0)
     have HKX:=Lib.hid (show x.data.toList=keyRow r from by have h:=hkl0;unfold keyL at h;exact Lit.string.inj h)
     have hrw : ∀y,(some rb:Option Nat)=some y→y=rb:=fun y e=>(Option.some.inj e).symm
     have RG1:=Lib.hid hrg
     have M21:=Lib.hid (M2.out.kept hg1 (by have:=HRB.out;simp;omega))
     have NI1:=Lib.hid (NI.out.keep2 hg1 (fun kl v y hm hy e=>by have:=hrw y e;have:=HM2B.out kl v y hm hy;omega))
     have OU1:=Lib.hid (own_grown OU.out hg1 (fun y hy e=>by have:=hrw y e;omega) (fun y hy e=>by have:=hrw y e;have:=HUB.out y hy;omega))
     have X1:=Lib.hid (ext_grown HX.out hg1 (fun y e=>by have:=hrw y e;have:=HRB.out;omega))
     have HRW1:=Lib.hid (show rb<w1.heap.size from by rw [hs1];exact HRW.out)
     have HCN:=Lib.hid (show cnt1<cnt from hlt)
     clear hmp hS hx' hkl0 hr ht0 hvt0 hmk hlk hrg hg1 hs1 hv1 hv2 RG M2 NI DO HDL OU HRW HX hrw hlt
     unfold mkRow at hen ⊢
     dsimp only at hen ⊢
     have HKEY:=Lib.hid hkey
     clear hkey
     go_wp2_with (at_lookup;refine wpList_lookup_v _ rfl _ _ 205 rfl 9 149 (string_keyed Tryz.underlying9) Tryz.underlying205 (.slice none 0 0) (zero_slP _) ShSl ⟨_,_,_,rfl⟩ (b1+1) k m2 rfl (M21.out.ext ((Ext.refl w1).alloc _)) _ (keyL r) rfl HKEY.out ?_)
     intro vp HVP hsp
     have own4:=(NI1.out.ext ((Ext.refl w1).alloc (.cells #[.slice cp r.vals.length cc,.slice cq r.lin.length cd] 58))).own r
     rw [←HVP.out]at own4
     obtain⟨p9,n9,c9,rfl⟩:=hsp
     have S4:=Lib.hid own4.slice
     have hpl:=persOf_len r l
     have HPL:=Lib.hid (show (persOf r l).length≤65536 from by have:=HN.out;omega)
     clear own4 hpl HVP hen
     go_wp2_with fail
     refine(levels_any _ (persOf r l) _ S4.out (persOf_valid r l) (by have:=HPL.out;omega)).mono ?_
     rintro e w3 ⟨v3,rfl,own3,x3⟩
     have a0:w3.cell? ⟨w1.heap.size,0,none⟩=some (.slice cp r.vals.length cc):=x3.at (by go_simp)
     have a1:w3.cell? ⟨w1.heap.size,1,none⟩=some (.slice cq r.lin.length cd):=x3.at (by go_simp)
     have X13:Ext w1 w3:=((Ext.refl w1).alloc _).trans x3
     have RG3:=Lib.hid (RG1.out.ext X13)
     have M23:=Lib.hid (M21.out.ext X13)
     have NI3:=Lib.hid (NI1.out.ext X13)
     have OU3:=Lib.hid (OU1.out.ext X13)
     have X3:=Lib.hid (X1.out.trans X13)
     have OL3:=Lib.hid own3
     have FR3:=Lib.hid (show SliceOf Rep.per (on w3 (fun x=>w1.heap.size+1≤x)) v3 (levels (persOf r l))from by have h:=own3.fresh flat_per;rw [show (w1.alloc (.cells #[.slice cp r.vals.length cc,.slice cq r.lin.length cd] 58)).heap.size=w1.heap.size+1 by simp]at h;exact h)
     have HB3:=Lib.hid (show rb<w1.heap.size∧w1.heap.size<w3.heap.size∧(∀x,u.ownBlock=some x→x<w1.heap.size)∧ ∀x,v3.ownBlock=some x→w1.heap.size<x from ⟨HRW1.out,cell_lt a0,fun x hx=>(OU1.out.lt x hx).2,fun x hx=>by have:=(own3.lt x hx).1;simp at this;omega⟩)
     generalize w1.heap.size=B10 at a0 a1 HB3 FR3 ⊢
     have HLL:=Lib.hid (levels_len (persOf r l))
     obtain⟨pl3,cl3,rfl,hpl3⟩:=own3.shapeL
     obtain⟨lv,hlv⟩ : ∃x,x=levels (persOf r l):=⟨_,rfl⟩
     have hlvn:lv.length≤8589934592:=by
      rw [hlv]
      have h1:=HLL.out
      have h2:(persOf r l).length*(2*(persOf r l).length)≤65536*(2*65536):=Nat.mul_le_mul HPL.out (Nat.mul_le_mul_left _ HPL.out)
      omega
     rw [←hlv]at OL3 hpl3 HB3 FR3 ⊢
     have HLV:=Lib.hid hlv
     obtain⟨M,hM⟩ : ∃M,M=lv.length:=⟨_,rfl⟩
     rw [←hM]at OL3 hlvn HB3 FR3 ⊢
     have HM:=Lib.hid hM
     have HPL3:=Lib.hid hpl3
     obtain⟨nr,hnr⟩ : ∃x,x=normRaw done l:=⟨_,rfl⟩
     rw [←hnr]at OU3
     have HNR:=Lib.hid hnr
     have HNL2:=Lib.hid (show nr.length≤137438953472 from by rw [hnr];exact HNL.out)
     have e3:=cell_lt a0
     clear own3 x3 X13 hlv hM hpl3 hnr RG1 M21 NI1 OU1 X1 HRW1 S4 HUB
     go_wp2_with fail
     go_loopg [8,52] M (fun gk vo vi wr=> ∃(j:Nat) (u:Value),j≤M∧gk=M - j∧vi = .int .i64 j∧u=vo∧Hid (RangeV wr Tryz.prog 9 ShRow b1 rb k m1 (fun z=>left z && !z.sameKey (keyL r)) cnt1)∧Hid (MapV wr Tryz.prog 9 ShSl (b1+1) k m2)∧Hid (NInv w wr (b1+2) 123 l m1 m2)∧Hid (OwnOf Rep.tup wr (fun x=>rb<x) (rb+1) 125 u (nr++(lv.take j).map (tupOf r)))∧Hid (SliceOf Rep.per (on wr (fun x=>u.ownBlock≠some x)) (.slice pl3 M cl3) lv)∧Hid (∀x,u.ownBlock=some x→x≠B10)∧wr.cell? ⟨B10,0,none⟩=some (.slice cp r.vals.length cc)∧wr.cell? ⟨B10,1,none⟩=some (.slice cq r.lin.length cd)∧Hid (Ext w wr))
     case atStart =>
      have hu:=HB3.out.2.2.1
      refine⟨0,u,by omega,rfl,rfl,rfl,RG3.out,M23.out,NI3.out,by rw [List.take_zero];show OwnOf Rep.tup _ _ _ _ _ (nr ++ []);rw [List.append_nil];exact OU3.out,FR3.out.ext (on_mono w3 fun x _ hx e=> ?_),fun x hx e=>by have:=hu x hx;omega,a0,a1,X3.out⟩
      have:=hu x e
      omega
     case round =>
      clear RG3 M23 NI3 OU3 OL3 FR3 X3 a0 a1 e3
      have HUB3:=Lib.hid HB3.out.1
      clear HB3
      obtain⟨j,u,hj,rfl,rfl,rfl,RG,M2,NI,OU,SL,HUX,a0,a1,HX⟩:=hrel
      by_cases hlt3:j<M
      ·have hjl:j<lv.length:=by have:=HM.out;omega
       have hdj:decide ((j:Int)<(M:Int))=true:=by simp;omega
       obtain⟨gl,rfl⟩:=HPL3.out (by omega)
       obtain⟨b0,b1',q0,q1⟩:=per_at SL.out j hjl
       replace b0:=(on_some.1 b0).2
       replace b1':=(on_some.1 b1').2
       simp only [Nat.zero_add]at b0 b1'
       have hst:nr++(lv.take (j+1)).map (tupOf r)=(nr++(lv.take j).map (tupOf r)) ++ [tupOf r lv[j]]:=by rw [List.take_succ_eq_append_getElem hjl,List.map_append,←List.append_assoc];rfl
       obtain⟨ys,hys⟩ : ∃x,x=nr++(lv.take j).map (tupOf r):=⟨_,rfl⟩
       rw [←hys]at OU hst
       have hyl:ys.length≤274877906944:=by rw [hys,List.length_append,List.length_map];have:=HNL2.out;have:=List.length_take_le j lv;omega
       obtain⟨⟨f,t⟩,hpj⟩ : ∃x,x=lv[j]:=⟨_,rfl⟩
       rw [←hpj]at b0 b1' q0 q1 hst
       dsimp only at b0 b1' q0 q1
       have HST:=Lib.hid hst
       have HQ:=Lib.hid (show okI f∧okI t from ⟨q0,q1⟩)
       have e3:=cell_lt a0
       have e4:=cell_lt b0
       have B1:ys.length+1≤maxLen:=by unfold maxLen;omega
       have B2:(ys.length+1)*64≤140737488355328:=by omega
       have HUL:=Lib.hid (show ∀x,u.ownBlock=some x→rb+1≤x∧x<wr.heap.size from fun x hx=>OU.out.lt x hx)
       have HRBW:=Lib.hid (show rb<wr.heap.size from by have:=HUB3.out;omega)
       clear hst hys hyl hpj q0 q1 hjl
       go_wp2_with fail
       refine(during_any _ _ r f t _ (HV1.out.ext ((HX.out.alloc _)).full) (HV2.out.ext ((HX.out.alloc _)).full) HFR.out.1.1 HFR.out.2).mono ?_
       rintro e w4 ⟨da,db,rfl,sa,sb,x4⟩
       obtain⟨pa4,ka4,rfl,_⟩:=sa.form
       obtain⟨pb4,kb4,rfl,_⟩:=sb.form
       have SA:=Lib.hid sa
       have SB:=Lib.hid sb
       have X4:=Lib.hid (show Ext wr w4 from ((Ext.refl wr).alloc _).trans x4)
       have HS4:=Lib.hid (show wr.heap.size≤w4.heap.size from X4.out.size)
       clear sa sb x4 b0 b1' e3 e4
       go_wp2_with (at_builtin;refine wpList_append_one Rep.tup (fun x=>rb<x) rfl _ _ 85 rfl (rb+1) 125 i2 _ 64 Tryz.underlying85 hi2 hz20 hz21 hz22 rfl (by decide) u ys rfl (OU.out.ext (X4.out.alloc _)) ⟨w4.heap.size,0,none⟩ 1 (tupOf r ⟨f,t⟩) [.slice pa4 r.vals.length ka4,.int .i64 f,.int .i64 t,.slice pb4 r.lin.length kb4] rfl (by
        have hsub : ∀(o:Obj),Sub (on w4 (since (wr.alloc (.cells #[.int .i64 f,.int .i64 t] 123)))) (on (w4.alloc o) (avoid (fun x=>rb<x) u)):=fun o=>(on_mono w4 fun x _ hx=>⟨fun e=>by have:=(HUL.out x e.symm).2;simp [since]at hx;omega,by have:=HRBW.out;simp [since]at hx;omega⟩).trans (((Ext.refl w4).alloc o).sub _)
        exact⟨_,_,rfl,SA.out.ext (hsub _),SB.out.ext (hsub _),HQ.out.1,HQ.out.2⟩) (by exact cells_new w4 [.slice pa4 r.vals.length ka4,.int .i64 f,.int .i64 t,.slice pb4 r.lin.length kb4] _) B1 B2 (by have h1:=((Ext.refl w4).alloc (.cells #[.slice pa4 r.vals.length ka4,.int .i64 f,.int .i64 t,.slice pb4 r.lin.length kb4] 125)).size;have:=HS4.out;have:=HRBW.out;exact Nat.le_trans (by omega) h1) ?_)
       intro g5 cap5 w5 own5 gr5 hg5
       have X4a:=X4.out.alloc (.cells #[.slice pa4 r.vals.length ka4,.int .i64 f,.int .i64 t,.slice pb4 r.lin.length kb4] 125)
       have hub : ∀x,u.ownBlock=some x→rb<x:=fun x hx=>by have:=(HUL.out x hx).1;omega
       have hg5':u.ownBlock=some g5∨g5=(w4.alloc (.cells #[.slice pa4 r.vals.length ka4,.int .i64 f,.int .i64 t,.slice pb4 r.lin.length kb4] 125)).heap.size:=by rcases hg5 with h | h;exact .inl h;exact .inr (by rw [h];simp)
       have RG5:=Lib.hid ((RG.out.ext X4a).kept gr5 (fun e=>by have:=hub _ e.symm;have:=HRB.out;omega) (fun e=>by have:=hub _ e.symm;omega))
       have M25:=Lib.hid ((M2.out.ext X4a).kept gr5 (fun e=>by have:=hub _ e.symm;have:=HRB.out;omega))
       have NI5:=Lib.hid ((NI.out.ext X4a).keep2 gr5 (fun kl v x hm hx e=>by have:=hub x e;have:=HM2B.out kl v x hm hx;omega))
       have SL5:=Lib.hid ((SL.out.ext (X4a.sub _)).ext (off_grow (a:=ys.length+1) (b:=cap5) gr5 hg5'))
       have HUX5:=Lib.hid (show ∀x,(Value.slice (some ⟨g5,0,none⟩) (ys.length+1) cap5).ownBlock=some x→x≠B10 from fun x hx e=>by
        have hx':g5=x:=Option.some.inj hx
        rcases hg5' with h | h
        ·exact HUX.out _ (by rw [←hx'];exact h) e
        ·have h1:=cell_lt (X4a.at a0);omega)
       have A0:=cell_grown gr5 (X4a.at a0) (fun x hx=>HUX.out x hx)
       have A1:=cell_grown gr5 (X4a.at a1) (fun x hx=>HUX.out x hx)
       have HX5:=Lib.hid (ext_grown (HX.out.trans X4a) gr5 (fun x hx=>by have:=hub x hx;have:=HRB.out;omega))
       have OU5:=Lib.hid (show OwnOf Rep.tup w5 (fun x=>rb<x) (rb+1) 125 (.slice (some ⟨g5,0,none⟩) (ys.length+1) cap5) (nr++(lv.take (j+1)).map (tupOf r))from by rw [HST.out];exact own5)
       clear own5 gr5 hg5 hg5' X4a hub RG M2 NI OU SL HUX a0 a1 HX SA SB X4 HUL
       go_wp2_with fail
       go_roundg (M - (j+1))
       case measure=>omega
       case rel=>exact⟨j+1,_,by omega,rfl,by go_num,rfl,RG5.out,M25.out,NI5.out,OU5.out,SL5.out,HUX5.out,A0,A1,HX5.out⟩
      ·have hjM:j=M:=by omega
       have hdj : ¬(j:Int)<(M:Int):=by omega
       have OUF:=Lib.hid (show OwnOf Rep.tup wr (fun x=>rb<x) (rb+1) 125 u (normRaw (done ++ [r]) l)from by
        have h:=OU.out
        rw [hjM,HM.out,List.take_length,HNR.out,HLV.out,←normRaw_snoc]at h
        exact h)
       have HRBW:=Lib.hid (show rb<wr.heap.size from by have:=HUB3.out;have:=cell_lt a0;omega)
       clear hjM OU
       go_wp2_with fail
       go_roundg (cnt1)
       case measure=>have:=HCN.out;omega
       case rel=>exact⟨_,cnt1,done ++ [r],u,Nat.le_refl _,rfl,RG.out,M2.out,NI.out,DO2.out,HDL2.out,OUF.out,HRBW.out,HX.out⟩
end Go.Proofs.YtombmdaohcjokaaGreatDoor
namespace Go.Proofs.YtombmdaohcjokaaGreatDoor
open Go.RowKit Go.Maps
open Classical
def keyG (vs:List Val):Lit:= .string (keyVals vs)
theorem keyG_inj {a b:List Val} (hl:a.length=b.length) (h:keyG a=keyG b):a=b:=by
 have h1:keyVals a ++ []=keyVals b ++ []:=by rw [List.append_nil,List.append_nil];exact Lit.string.inj h
 exact(keyVals_inj hl h1).1
theorem keyG_lit (r:List Val):WideAt.IsKeyLit (keyG r):=trivial
noncomputable def memOf (proj:List Val→List Val) (kv:List Val) (l:List Tup):List Tup:=l.filter fun t=>decide (proj t.vals=kv)
theorem memOf_snoc (proj:List Val→List Val) (l:List Tup) (t:Tup):memOf proj (proj t.vals) (l ++ [t])=memOf proj (proj t.vals) l ++ [t]:=by
 unfold memOf
 rw [List.filter_append]
 congr 1
 rw [List.filter_cons,if_pos (decide_eq_true rfl)]
 rfl
theorem memOf_snoc_no (proj:List Val→List Val) (kv:List Val) (l:List Tup) (t:Tup) (h:kv≠proj t.vals):memOf proj kv (l ++ [t])=memOf proj kv l:=by
 unfold memOf
 rw [List.filter_append]
 have:List.filter (fun u:Tup=>decide (proj u.vals=kv)) [t] = []:=by
  rw [List.filter_cons,if_neg (fun e=>h (of_decide_eq_true e).symm)]
  rfl
 rw [this,List.append_nil]
theorem memOf_len (proj:List Val→List Val) (kv:List Val) (l:List Tup):(memOf proj kv l).length≤l.length:=List.length_filter_le _ _
theorem memOf_none {proj:List Val→List Val} {kv:List Val} {l:List Tup} (h : ∀t∈l,proj t.vals≠kv):memOf proj kv l = [] :=
 List.filter_eq_nil_iff.2 fun t ht e=>h t ht (of_decide_eq_true e)
structure GInv (proj:List Val→List Val) (K:Nat) (w':World) (B base:Nat) (T:TypeId) (VB:Nat→Prop) (l:List Tup) (m1 m2:Lit→Option Value):Prop where
 k1 : ∀kl v,m1 kl=some v→ ∃t∈l,kl=keyG (proj t.vals)∧SliceOf Rep.val (on w' VB) v (proj t.vals)
 k2 : ∀t∈l,(m1 (keyG (proj t.vals))).isSome=true
 p1 : ∀kl v,m2 kl=some v→ ∃kv,kv.length=K∧kl=keyG kv∧(K=0∨ ∃t∈l,kv=proj t.vals)∧OwnOf Rep.tup w' (fun x=>x<B) base T v (memOf proj kv l)
 p2 : ∀t∈l,(m2 (keyG (proj t.vals))).isSome=true
 p3:K=0→(m2 (keyG [])).isSome=true
 ap : ∀kl kl' v v',kl≠kl'→m2 kl=some v→m2 kl'=some v'→Apart v v'
 vb : ∀kl v x,m2 kl=some v→v.ownBlock=some x→ ¬VB x
 vlt : ∀x,VB x→x<w'.heap.size
section
variable {proj:List Val→List Val} {K:Nat} {w w' w'':World} {B base:Nat} {T:TypeId} {VB:Nat→Prop} {l:List Tup} {m1 m2:Lit→Option Value}
noncomputable def m2Start (K:Nat):Lit→Option Value:=if K=0 then putV (fun _=>none) (keyG []) (.slice none 0 0)else fun _=>none
theorem GInv.start (proj:List Val→List Val) (K:Nat) (w':World) (B base:Nat) (T:TypeId):GInv proj K w' B base T (fun _=>False) [] (fun _=>none) (m2Start K):=by
 refine⟨fun _ _ h=>(by cases h),fun _ h=>(by cases h),fun kl v h=> ?_,fun _ h=>(by cases h),fun h=> ?_,fun kl kl' v v' hne h h'=> ?_,fun _ _ _ _ _ e=>e,fun _ e=>e.elim⟩
 ·unfold m2Start at h
  by_cases hK:K=0
  ·rw [if_pos hK]at h
   by_cases e:kl=keyG []
   ·subst e
    rw [putV_same]at h
    exact⟨[],hK.symm,rfl,.inl hK,by rw [←Option.some.inj h];exact OwnOf.nil _ _ _ _ _⟩
   ·rw [putV_other _ _ e]at h;cases h
  ·rw [if_neg hK]at h;cases h
 ·unfold m2Start
  rw [if_pos h,putV_same];rfl
 ·unfold m2Start at h
  by_cases hK:K=0
  ·rw [if_pos hK]at h
   by_cases e:kl=keyG []
   ·subst e
    rw [putV_same]at h
    rw [←Option.some.inj h]
    exact fun k hk=>(by cases hk)
   ·rw [putV_other _ _ e]at h;cases h
  ·rw [if_neg hK]at h;cases h
theorem GInv.keep (h:GInv proj K w' B base T VB l m1 m2) {row:Option Nat} (gr:w'.grownBy w'' row) (hr : ∀k,row=some k→B≤k∧ ¬VB k∧ ∀kl v,m2 kl=some v→v.ownBlock≠some k):GInv proj K w'' B base T VB l m1 m2 :=
 ⟨fun kl v hm=>by
  obtain⟨t,h1,h2,h4⟩:=h.k1 kl v hm
  exact⟨t,h1,h2,h4.chg (chg_grown gr) fun k hk hc=>(hr k hc).2.1 hk⟩,h.k2,fun kl v hm=>by
  obtain⟨kv,h1,h2,h3,h4⟩:=h.p1 kl v hm
  exact⟨kv,h1,h2,h3,own_grown h4 gr (fun k hk hc=>by have:=(hr k hc).1;omega) (fun k hk hc=>(hr k hc).2.2 kl v hm hk)⟩,h.p2,h.p3,h.ap,h.vb,fun x hx=>Nat.lt_of_lt_of_le (h.vlt x hx) gr.size⟩
theorem GInv.ext (h:GInv proj K w' B base T VB l m1 m2) (hx:Ext w' w''):GInv proj K w'' B base T VB l m1 m2:=h.keep (Ext.grows hx) fun k e=>by cases e
theorem GInv.below (h:GInv proj K w' B base T VB l m1 m2) : ∀kl v x,m2 kl=some v→v.ownBlock=some x→base≤x∧x<w'.heap.size:=fun kl v x hm hx=>by
 obtain⟨_,_,_,_,h4⟩:=h.p1 kl v hm
 exact h4.lt x hx
theorem GInv.more (h:GInv proj K w' B base T VB l m1 m2) {R:Nat→Prop} (h1 : ∀kl v x,m2 kl=some v→v.ownBlock=some x→ ¬R x) (h2 : ∀x,R x→x<w'.heap.size):GInv proj K w' B base T (fun x=>VB x∨R x) l m1 m2 :=
 ⟨fun kl v hm=>by
  obtain⟨t,a,b,c⟩:=h.k1 kl v hm
  exact⟨t,a,b,c.ext (on_mono w' fun x _ hx=> .inl hx)⟩,h.k2,h.p1,h.p2,h.p3,h.ap,fun kl v x hm hx e=>by
  rcases e with e | e
  ·exact h.vb kl v x hm hx e
  ·exact h1 kl v x hm hx e,fun x e=>by
  rcases e with e | e
  ·exact h.vlt x e
  ·exact h2 x e⟩
theorem GInv.own (h:GInv proj K w' B base T VB l m1 m2) {kv:List Val} (hk:kv.length=K):OwnOf Rep.tup w' (fun x=>x<B) base T ((m2 (keyG kv)).getD (.slice none 0 0)) (memOf proj kv l):=by
 cases hm:m2 (keyG kv)with
 |some v =>
  obtain⟨kv',h1,h2,_,h4⟩:=h.p1 _ v hm
  have e:=keyG_inj (hk.trans h1.symm) h2
  subst e
  exact h4
 |none =>
  rw [memOf_none fun t ht e=> ?_]
  ·exact OwnOf.nil _ _ _ _ _
  ·have h5:=h.p2 t ht
   rw [e,hm]at h5
   cases h5
theorem GInv.vals (h:GInv proj K w' B base T VB l m1 m2) (hp : ∀vs,(proj vs).length=K) {kv:List Val} (hk:kv.length=K) (hs:(m2 (keyG kv)).isSome=true):SliceOf Rep.val w'.cell? ((m1 (keyG kv)).getD (.slice none 0 0)) kv:=by
 cases hm:m1 (keyG kv)with
 |some v =>
  obtain⟨t,_,h2,h3⟩:=h.k1 _ v hm
  rw [keyG_inj (hk.trans (hp _).symm) h2]
  exact h3.ext fun p u e=>(on_some.1 e).2
 |none =>
  obtain⟨v,hv⟩:=Option.isSome_iff_exists.1 hs
  obtain⟨kv',h1,h2,h3,_⟩:=h.p1 _ v hv
  have e:=keyG_inj (hk.trans h1.symm) h2
  subst e
  rcases h3 with h3 | ⟨t,ht,h3⟩
  ·have:kv = []:=List.eq_nil_of_length_eq_zero (hk.trans h3)
   subst this
   exact SliceOf.nil _ _
  ·have h5:=h.k2 t ht
   rw [←h3,hm]at h5
   cases h5
theorem GInv.apart (h:GInv proj K w' B base T VB l m1 m2) {kv:List Val} {kl:Lit} {v:Value} (hne:kl≠keyG kv) (hm:m2 kl=some v):Apart v ((m2 (keyG kv)).getD (.slice none 0 0)):=by
 cases hr:m2 (keyG kv)with
 |some u=>exact h.ap kl _ v u hne hm hr
 |none=>exact fun k _ e=>by cases e
theorem GInv.getD_vb (h:GInv proj K w' B base T VB l m1 m2) (kl:Lit) : ∀x,((m2 kl).getD (.slice none 0 0)).ownBlock=some x→ ¬VB x:=fun x hx=>by
 cases hm:m2 kl with
 |some v=>rw [hm]at hx;exact h.vb kl v x hm hx
 |none=>rw [hm]at hx;cases hx
theorem GInv.step (h:GInv proj K w' B base T VB l m1 m2) (hB:B≤base) (hp : ∀vs,(proj vs).length=K) {t:Tup} {v1:Value} (hv1:SliceOf Rep.val (on w' VB) v1 (proj t.vals)) {g a b:Nat}
  (own:OwnOf Rep.tup w'' (fun x=>x<B) base T (.slice (some ⟨g,0,none⟩) a b) (memOf proj (proj t.vals) l ++ [t])) (gr:w'.grownBy w'' ((m2 (keyG (proj t.vals))).getD (.slice none 0 0)).ownBlock)
  (hg:((m2 (keyG (proj t.vals))).getD (.slice none 0 0)).ownBlock=some g∨g=w'.heap.size) :
  GInv proj K w'' B base T VB (l ++ [t]) (putV m1 (keyG (proj t.vals)) v1) (putV m2 (keyG (proj t.vals)) (.slice (some ⟨g,0,none⟩) a b)):=by
 have hvb:=h.getD_vb (keyG (proj t.vals))
 have hbase : ∀x,((m2 (keyG (proj t.vals))).getD (.slice none 0 0)).ownBlock=some x→base≤x:=fun x hx=>((h.own (hp t.vals)).lt x hx).1
 refine⟨fun kl v hm=> ?_,fun u hu=> ?_,fun kl v hm=> ?_,fun u hu=> ?_,fun hK=> ?_,fun kl kl' v v' hne hm hm'=> ?_,fun kl v x hm hx=> ?_,fun x hx=>Nat.lt_of_lt_of_le (h.vlt x hx) gr.size⟩
 ·by_cases e:kl=keyG (proj t.vals)
  ·subst e
   rw [putV_same]at hm
   exact⟨t,by simp,rfl,by rw [←Option.some.inj hm];exact hv1.chg (chg_grown gr) fun k hk hc=>hvb k hc hk⟩
  ·rw [putV_other _ _ e]at hm
   obtain⟨u,h1,h2,h3⟩:=h.k1 kl v hm
   exact⟨u,List.mem_append_left _ h1,h2,h3.chg (chg_grown gr) fun k hk hc=>hvb k hc hk⟩
 ·by_cases e:keyG (proj u.vals)=keyG (proj t.vals)
  ·rw [e,putV_same];rfl
  ·rw [putV_other _ _ e]
   rcases List.mem_append.1 hu with hu | hu
   ·exact h.k2 u hu
   ·rw [List.mem_singleton]at hu;subst hu;exact absurd rfl e
 ·by_cases e:kl=keyG (proj t.vals)
  ·subst e
   rw [putV_same]at hm
   exact⟨proj t.vals,hp _,rfl,.inr ⟨t,by simp,rfl⟩,by rw [memOf_snoc,←Option.some.inj hm];exact own⟩
  ·rw [putV_other _ _ e]at hm
   obtain⟨kv,h1,h2,h3,h4⟩:=h.p1 kl v hm
   refine⟨kv,h1,h2,?_,?_⟩
   ·rcases h3 with h3 | ⟨u,h5,h6⟩
    ·exact .inl h3
    ·exact .inr ⟨u,List.mem_append_left _ h5,h6⟩
   ·rw [memOf_snoc_no _ _ _ _ (fun c=>e (by rw [h2,c]))]
    exact own_grown h4 gr (fun k hk hc=>by have:=hbase k hc;omega) (fun k hk hc=>h.apart e hm k hk hc)
 ·by_cases e:keyG (proj u.vals)=keyG (proj t.vals)
  ·rw [e,putV_same];rfl
  ·rw [putV_other _ _ e]
   rcases List.mem_append.1 hu with hu | hu
   ·exact h.p2 u hu
   ·rw [List.mem_singleton]at hu;subst hu;exact absurd rfl e
 ·by_cases e:keyG []=keyG (proj t.vals)
  ·rw [e,putV_same];rfl
  ·rw [putV_other _ _ e];exact h.p3 hK
 ·by_cases e:kl=keyG (proj t.vals)
  ·by_cases e':kl'=keyG (proj t.vals)
   ·exact absurd (e.trans e'.symm) hne
   ·subst e
    rw [putV_same]at hm
    rw [putV_other _ _ e']at hm'
    rw [←Option.some.inj hm]
    exact((h.apart e' hm').grow (fun k hk=>(h.below kl' v' k hm' hk).2) hg).symm
  ·rw [putV_other _ _ e]at hm
   by_cases e':kl'=keyG (proj t.vals)
   ·subst e'
    rw [putV_same]at hm'
    rw [←Option.some.inj hm']
    exact(h.apart e hm).grow (fun k hk=>(h.below kl v k hm hk).2) hg
   ·rw [putV_other _ _ e']at hm'
    exact h.ap kl kl' v v' hne hm hm'
 ·by_cases e:kl=keyG (proj t.vals)
  ·subst e
   rw [putV_same]at hm
   rw [←Option.some.inj hm]at hx
   have hx:g=x:=Option.some.inj hx
   rcases hg with hg | hg
   ·exact hvb x (by rw [hg,hx])
   ·intro hc
    have:=h.vlt x hc
    omega
  ·rw [putV_other _ _ e]at hm
   exact h.vb kl v x hm hx
def DoneG (K:Nat) (m2:Lit→Option Value) (left:Lit→Bool) (done:List (List Val)):Prop:=done.Nodup∧(∀kv∈done,kv.length=K)∧ ∀kv,kv.length=K→(kv∈done↔(m2 (keyG kv)).isSome=true∧left (keyG kv)=false)
theorem DoneG.start {left:Lit→Bool} (h : ∀kl,WideAt.IsKeyLit kl→left kl=(m2 kl).isSome):DoneG K m2 left [] :=
 ⟨List.nodup_nil,fun _ h=>(by cases h),fun r _=>⟨fun hr=>(by cases hr),fun⟨h1,h2⟩=>by rw [h _ (keyG_lit r),h1]at h2;cases h2⟩⟩
theorem DoneG.step {left:Lit→Bool} {done:List (List Val)} (h:DoneG K m2 left done) {r:List Val} (hr:r.length=K) (hm:(m2 (keyG r)).isSome=true) (hl:left (keyG r)=true):DoneG K m2 (fun z=>left z && !z.sameKey (keyG r)) (done ++ [r]):=by
 have hn:r∉done:=fun hx=>by rw [((h.2.2 r hr).1 hx).2]at hl;cases hl
 refine⟨List.nodup_append.2 ⟨h.1,by simp,fun a ha b hb=> ?_⟩,fun kv hkv=> ?_,fun s hs=> ?_⟩
 ·rw [List.mem_singleton]at hb
  subst hb
  exact fun e=>hn (e▸ha)
 ·rcases List.mem_append.1 hkv with hkv | hkv
  ·exact h.2.1 kv hkv
  ·rw [List.mem_singleton]at hkv;rw [hkv];exact hr
 ·rw [List.mem_append,List.mem_singleton,h.2.2 s hs]
  by_cases e:s=r
  ·subst e
   simp [hm,WideAt.sameKey_self (keyG_lit s)]
  ·have hk:(keyG s).sameKey (keyG r)=false:=by
    cases hs2:(keyG s).sameKey (keyG r)
    ·rfl
    ·exact absurd (keyG_inj (hs.trans hr.symm) (WideAt.sameKey_eq hs2)) e
   simp [hk,e]
theorem DoneG.all {left:Lit→Bool} {done:List (List Val)} (h:DoneG K m2 left done) (hi:GInv proj K w' B base T VB l m1 m2) (hp : ∀vs,(proj vs).length=K) (hl : ∀kl,left kl=false) : ∀r,r∈done↔(K=0∧r = [])∨ ∃t∈l,r=proj t.vals:=by
 intro r
 constructor
 ·intro hr
  have hrl:=h.2.1 r hr
  have h1:=((h.2.2 r hrl).1 hr).1
  obtain⟨v,hv⟩:=Option.isSome_iff_exists.1 h1
  obtain⟨kv,h2,h3,h4,_⟩:=hi.p1 _ v hv
  have e:=keyG_inj (hrl.trans h2.symm) h3
  subst e
  rcases h4 with h4 | h4
  ·exact .inl ⟨h4,List.eq_nil_of_length_eq_zero (hrl.trans h4)⟩
  ·exact .inr h4
 ·rintro(⟨h1,rfl⟩ | ⟨t,h1,rfl⟩)
  ·exact(h.2.2 [] h1.symm).2 ⟨hi.p3 h1,hl _⟩
  ·exact(h.2.2 _ (hp _)).2 ⟨hi.p2 t h1,hl _⟩
end
theorem lookup_run {P:Program} {w:World} {k e t:TypeId} {S:Value→Prop} {b n:Nat} {mp:Lit→Option Value} (h:MapV w P k S b n mp) (K:Go.Maps.Keyed P k) (ht:P.underlying t=some (.map k e)) {z:Value} (hz:(zeroValue e).run P w = .ok z w) (hS:S z) {key:Value} {kl:Lit} (hkey:keyOf P k key=some kl) {v:Value} (hv:(mp kl).getD z=v) :
  (Instr.lookup t (.map (some b)) key false).run P w = .ok v w:=by
 obtain⟨D,h1,h2⟩:=h
 obtain⟨u,ps,hrun,hat⟩:=h1.lookup K ht hz (rawR_mk hS) hkey
 obtain⟨hs,hu⟩:=rawR_inv hat
 have h3:=h2.2 kl (K.key hkey) (.held z)
 rw [(Prod.mk.inj hu).1]at h3
 rw [hrun,←hv]
 cases hmk:mp kl with
 |none=>rw [hmk]at h3;injection h3 with h3;rw [h3];rfl
 |some x=>rw [hmk]at h3;injection h3 with h3;rw [h3];rfl
theorem store_run {P:Program} {w:World} {k e t:TypeId} {S:Value→Prop} {b n:Nat} {mp:Lit→Option Value} (h:MapV w P k S b n mp) (K:Go.Maps.Keyed P k) (ht:P.underlying t=some (.map k e)) (hn:n<maxLen) {key val:Value} {kl:Lit} (hkey:keyOf P k key=some kl) (hval:S val) :
  ∃w',(Instr.mapUpdate t (.map (some b)) key val).run P w = .ok () w'∧MapV w' P k S b (n+1) (putV mp kl val)∧w.grownBy w' (some b):=by
 obtain⟨D,h1,h2⟩:=h
 obtain⟨w',hrun,r1,r2⟩:=h1.update K ht hn hkey (rawR_mk hval)
 exact⟨w',hrun,⟨_,r1,h2.put (K.key hkey) val⟩,r2⟩
theorem tup_own_at {w:World} {S:Nat→Prop} {base:Nat} {e:TypeId} {g n cap:Nat} {xs:List Tup} (h:OwnOf Rep.tup w S base e (.slice (some ⟨g,0,none⟩) n cap) xs) (hn:n=xs.length) (i:Nat) (hi:i<xs.length) :
  ∃u v,w.cell? ⟨g,i*4,none⟩=some u∧w.cell? ⟨g,i*4+1,none⟩=some (.int .i64 xs[i].from_)∧w.cell? ⟨g,i*4+2,none⟩=some (.int .i64 xs[i].to_)∧w.cell? ⟨g,i*4+3,none⟩=some v ∧
   SliceOf Rep.val (on w S) u xs[i].vals∧SliceOf Rep.int (on w S) v xs[i].lin∧okI xs[i].from_∧okI xs[i].to_:=by
 obtain⟨css,h1,h2⟩:=h
 obtain⟨c,⟨u,v,rfl,g1,g2,g3,g4⟩,_,h3⟩:=h1.at i hi
 subst hn
 have hc : ∀j z,[u,Value.int .i64 xs[i].from_,.int .i64 xs[i].to_,v][j]?=some z→w.cell? ⟨g,i*4+j,none⟩=some z:=fun j z hj=>by
  have hjl:j<4:=by
   have:=(List.getElem?_eq_some_iff.1 hj).1
   simpa using this
  have h4:=h2.cellAt (i*4+j) (by show i*4+j<xs.length*4;omega)
  rw [h4]
  exact h3 j z hj
 have hs:Sub (on w (avoid S (.slice (some ⟨g,0,none⟩) xs.length cap))) (on w S):=on_mono w fun k _ hk=>hk.2
 exact⟨u,v,hc 0 _ rfl,hc 1 _ rfl,hc 2 _ rfl,hc 3 _ rfl,g1.ext hs,g2.ext hs,g3,g4⟩
noncomputable def rawG (proj:List Val→List Val) (aggV:List (List Val)→List Val) (always:Bool) (l:List Tup) (done:List (List Val)):List Tup:=done.flatMap fun kv=>gOut aggV always kv (memOf proj kv l)
theorem rawG_snoc (proj:List Val→List Val) (aggV:List (List Val)→List Val) (always:Bool) (l:List Tup) (done:List (List Val)) (r:List Val):rawG proj aggV always l (done ++ [r])=rawG proj aggV always l done++gOut aggV always r (memOf proj r l):=by
 unfold rawG
 rw [List.flatMap_append,List.flatMap_cons,List.flatMap_nil,List.append_nil]
theorem rawG_norm {proj:List Val→List Val} {aggV:List (List Val)→List Val} {K:Nat} {l:List Tup} {done:List (List Val)} (hp : ∀vs,(proj vs).length=K) (h1:done.Nodup) (h2 : ∀r,r∈done↔(K=0∧r = [])∨ ∃t∈clipT l,r=proj t.vals) :
  normT (rawG proj aggV (decide (K=0)) (clipT l) done)=aggT proj aggV (decide (K=0)) l:=by
 have hperm:done.Perm (gKeys proj (decide (K=0)) l):=by
  refine(List.perm_ext_iff_of_nodup h1 ?_).2 fun r=> ?_
  ·unfold gKeys
   split
   ·simp
   ·exact once_nodup _
  ·rw [h2]
   unfold gKeys
   by_cases hK:K=0
   ·rw [if_pos (decide_eq_true hK),List.mem_singleton]
    constructor
    ·rintro(⟨_,h⟩ | ⟨t,_,rfl⟩)
     ·exact h
     ·exact List.eq_nil_of_length_eq_zero ((hp _).trans hK)
    ·exact fun h=> .inl ⟨hK,h⟩
   ·rw [if_neg (by rw [decide_eq_true_eq];exact hK),mem_once,List.mem_map]
    constructor
    ·rintro(⟨h,_⟩ | ⟨t,h,rfl⟩)
     ·exact absurd h hK
     ·exact⟨t,h,rfl⟩
    ·rintro⟨t,h,rfl⟩
     exact .inr ⟨t,h,rfl⟩
 exact normT_perm (hperm.flatMap_right _)
theorem gUpto_len (aggV:List (List Val)→List Val) (always:Bool) (P:List Int) (kv:List Val) (ms:List Tup) (k:Nat):(gUpto aggV always P kv ms k).length≤k:=by
 induction k with
 |zero=>exact Nat.zero_le _
 |succ k ih =>
  unfold gUpto
  rw [List.length_append]
  split
  ·simp only [List.length_singleton];omega
  ·simp only [List.length_nil];omega
theorem gPts_len (always:Bool) (ms:List Tup):(gPts always ms).length≤2*ms.length+2:=by
 have h : ∀l:List Tup,(pts l).length≤2*l.length:=fun l=>Nat.le_trans (pts_law l).2.2 (bnd_len l)
 unfold gPts
 split
 ·have:=h (dayT::ms);rw [List.length_cons]at this;omega
 ·have:=h ms;omega
theorem mem_sum (proj:List Val→List Val) : ∀(done:List (List Val)) (l:List Tup),done.Nodup→(done.map fun r=>(memOf proj r l).length).sum≤l.length:=by
 intro done
 induction done with
 |nil=>intro l _;exact Nat.zero_le _
 |cons r done ih =>
  intro l hnd
  obtain⟨h1,h2⟩:=List.nodup_cons.1 hnd
  have h3:=ih (l.filter fun t=> !decide (proj t.vals=r)) h2
  have h4:(done.map fun s=>(memOf proj s (l.filter fun t=> !decide (proj t.vals=r))).length)=done.map fun s=>(memOf proj s l).length:=by
   refine List.map_congr_left fun s hs=> ?_
   have hne:s≠r:=fun e=>h1 (e▸hs)
   unfold memOf
   rw [List.filter_filter]
   congr 2
   funext t
   by_cases h:proj t.vals=s
   ·simp [h,hne]
   ·simp [h]
  rw [h4]at h3
  have h5 : ∀m:List Tup,(memOf proj r m).length+(m.filter fun t=> !decide (proj t.vals=r)).length=m.length:=fun m=>by
   induction m with
   |nil=>rfl
   |cons y m ih =>
    unfold memOf at ih ⊢
    rw [List.filter_cons,List.filter_cons]
    by_cases h:proj y.vals=r
    ·simp only [h,decide_true,Bool.not_true,if_true,Bool.false_eq_true,if_false,List.length_cons];omega
    ·simp only [h,decide_false,Bool.not_false,if_true,Bool.false_eq_true,if_false,List.length_cons];omega
  have h6:=h5 l
  rw [List.map_cons,List.sum_cons]
  omega
theorem rawG_len2 (proj:List Val→List Val) (aggV:List (List Val)→List Val) (always:Bool) (l:List Tup) (done:List (List Val)) (hnd:done.Nodup):(rawG proj aggV always l done).length≤2*l.length+2*done.length:=by
 have h : ∀d:List (List Val),(rawG proj aggV always l d).length≤2*(d.map fun r=>(memOf proj r l).length).sum+2*d.length:=fun d=>by
  induction d with
  |nil=>exact Nat.zero_le _
  |cons r d ih =>
   unfold rawG at *
   rw [List.flatMap_cons,List.length_append,List.length_cons,List.map_cons,List.sum_cons]
   have h1:=gUpto_len aggV always (gPts always (memOf proj r l)) r (memOf proj r l) ((gPts always (memOf proj r l)).length - 1)
   have h2:=gPts_len always (memOf proj r l)
   have h4:(gOut aggV always r (memOf proj r l)).length≤2*(memOf proj r l).length+2:=by unfold gOut;omega
   omega
 have h1:=h done
 have h2:=mem_sum proj done l hnd
 omega
end Go.Proofs.YtombmdaohcjokaaGreatDoor
namespace Go.Proofs.YtombmdaohcjokaaGreatDoor
open Go.RowKit
def nV:Val:=⟨0,0,ByteArray.empty⟩
def intVal (n:Int):Val:=⟨1,n,ByteArray.empty⟩
theorem int_value (n:Int) (w:World):Calls Tryz.prog 32 #[.int .i64 n] w fun e w'=>e = .returned (valV (intVal n))∧Ext w w':=by
 go_enter Tryz.func32,Tryz.ntmps32
 go_wp2_with fail
 exact bodyPost_ret (v:=valV (intVal n)) (by simp [results,Tryz.results32,go_sem,valV,intVal];rfl) rfl ⟨rfl,by first | exact((Ext.refl w).alloc _) | exact Below.setCell (Below.setCell (Below.setCell ((Ext.refl w).alloc _) (by simp) _) (by simp) _) (by simp) _⟩
def genStr (x:Int):ByteArray:=if x % 3=0 then⟨#[]⟩else if x % 3=1 then⟨#[97]⟩else⟨#[98,39]⟩
def genV0 (x:Int):Val:=if x % 7=6 then nV else intVal (x % 3 - 1)
def genV1 (x:Int):Val:=if x % 7=6 then nV else⟨2,0,genStr x⟩
theorem value_0 (x:Int) (w:World) (h0:0≤x) (h1:x≤65535):Calls Tryz.prog 90 #[.int .i64 0,.int .u16 x] w fun e w'=>e = .returned (valV (genV0 x))∧Ext w w':=by
 by_cases h7:x % 7=6
 ·have hb:(x % 7==6)=true:=by simp [h7]
  have hv:genV0 x=nV:=if_pos h7
  have HV:=Lib.hid hv
  clear h7 hv
  go_enter Tryz.func90,Tryz.ntmps90
  go_wp2_with fail
  exact bodyPost_ret (v:=valV (genV0 x)) (by rw [HV.out];simp [results,Tryz.results90,go_sem,valV,nV];rfl) rfl ⟨rfl,(Ext.refl w).alloc _⟩
 ·have hb:(x % 7==6)=false:=by simp [h7]
  have hv:genV0 x=intVal (x % 3 - 1):=if_neg h7
  have HV:=Lib.hid hv
  clear h7 hv
  go_enter Tryz.func90,Tryz.ntmps90
  go_wp2_with fail
  refine(int_value _ _).mono ?_
  rintro e w1 ⟨rfl,x1⟩
  have z1:=x1.size
  simp at z1
  have c0:=x1.at (p:=⟨w.heap.size,0,none⟩) (v:= .int .i64 0) (by go_simp)
  have c1:=x1.at (p:=⟨w.heap.size,1,none⟩) (v:= .int .i64 0) (by go_simp)
  have c2:=x1.at (p:=⟨w.heap.size,2,none⟩) (v:= .string ⟨#[]⟩) (by go_simp)
  have f0:=x1.unfrozen (p:=⟨w.heap.size,0,none⟩) (v:= .int .i64 0) (by go_simp) (by go_simp)
  have f1:=x1.unfrozen (p:=⟨w.heap.size,1,none⟩) (v:= .int .i64 0) (by go_simp) (by go_simp)
  have f2:=x1.unfrozen (p:=⟨w.heap.size,2,none⟩) (v:= .string ⟨#[]⟩) (by go_simp) (by go_simp)
  go_wp2_with fail
  exact bodyPost_ret (v:=valV (genV0 x)) (by rw [HV.out];simp [results,Tryz.results90,go_sem,valV,intVal,c0,c1,c2]) rfl ⟨rfl,Below.setCell (Below.setCell (Below.setCell (((Ext.refl w).alloc _).trans x1) (by simp) _) (by simp) _) (by simp) _⟩
theorem value_1 (x:Int) (w:World) (h0:0≤x) (h1:x≤65535):Calls Tryz.prog 90 #[.int .i64 1,.int .u16 x] w fun e w'=>e = .returned (valV (genV1 x))∧Ext w w':=by
 by_cases h7:x % 7=6
 ·have hb:(x % 7==6)=true:=by simp [h7]
  have hv:genV1 x=nV:=if_pos h7
  have HV:=Lib.hid hv
  clear h7 hv
  go_enter Tryz.func90,Tryz.ntmps90
  go_wp2_with fail
  exact bodyPost_ret (v:=valV (genV1 x)) (by rw [HV.out];simp [results,Tryz.results90,go_sem,valV,nV];rfl) rfl ⟨rfl,(Ext.refl w).alloc _⟩
 ·have hb:(x % 7==6)=false:=by simp [h7]
  have hv:genV1 x=⟨2,0,genStr x⟩:=if_neg h7
  have h3:x % 3=0∨x % 3=1∨x % 3=2:=by omega
  unfold genStr at hv
  clear h7
  rcases h3 with h3 | h3 | h3
  all_goals
   rw [h3]at hv
   simp at hv
   have HV:=Lib.hid hv
   clear hv
   go_enter Tryz.func90,Tryz.ntmps90
   go_wp2_with fail
   exact bodyPost_ret (v:=valV (genV1 x)) (by rw [HV.out];simp [results,Tryz.results90,go_sem,valV]) rfl ⟨rfl,by first | exact Below.setCell (Below.setCell (Below.setCell (((Ext.refl w).alloc _).alloc _) (by simp) _) (by simp) _) (by simp) _ | exact((Ext.refl w).alloc _).alloc _⟩
def okVal (x:Val):Prop:=(-9223372036854775808≤x.kind∧x.kind≤9223372036854775807)∧(-9223372036854775808≤x.n∧x.n≤9223372036854775807)∧x.s.size≤maxLen
theorem ok_nV:okVal nV:=⟨by decide,by decide,by simp [nV,maxLen]⟩
theorem ok_genV0 (x:Int):okVal (genV0 x):=by
 unfold genV0
 split
 ·exact ok_nV
 ·exact⟨by simp [intVal],by simp [intVal];omega,by simp [intVal,maxLen]⟩
theorem ok_genV1 (x:Int):okVal (genV1 x):=by
 unfold genV1
 split
 ·exact ok_nV
 ·refine⟨by simp,by simp,?_⟩
  unfold genStr
  (repeat' split) <;> simp [maxLen,ByteArray.size]
def genVals (x y:Int):List Val:= [genV0 x,genV1 y]
theorem vals_gen (x y:Int) (w:World) (h0:0≤x) (h1:x≤65535) (h2:0≤y) (h3:y≤65535) :
  Calls Tryz.prog 49 #[.int .u16 x,.int .u16 y] w fun e w'=> ∃v,e = .returned v∧SliceOf Rep.val (on w' (fun k=>w.heap.size≤k)) v (genVals x y)∧Ext w w':=by
 go_enter Tryz.func49,Tryz.ntmps49
 go_wp2_with fail
 refine(value_0 x _ h0 h1).mono ?_
 rintro e w1 ⟨rfl,x1⟩
 go_wp2_with fail
 refine(value_1 y _ h2 h3).mono ?_
 rintro e w2 ⟨rfl,x2⟩
 go_wp2_with fail
 refine bodyPost_ret (v:= .slice (some ⟨w2.heap.size,0,none⟩) 2 2) (by simp [results,Tryz.results49,go_sem]) rfl ⟨_,rfl,?_,(x1.trans x2).alloc _⟩
 refine SliceOf.flatOn flat_val (slice_lit Rep.val w2 _ 61 [[.int .i64 (genV0 x).kind,.int .i64 (genV0 x).n,.string (genV0 x).s],[.int .i64 (genV1 y).kind,.int .i64 (genV1 y).n,.string (genV1 y).s]] (genVals x y) rfl ⟨⟨rfl,ok_genV0 x⟩,⟨rfl,ok_genV1 y⟩,trivial⟩ (by simp [genVals,maxLen])) fun ad n c h=> ?_
 injection h with h _ _
 injection h with h
 rw [←h]
 exact(x1.trans x2).size
def genFrom (x:Int):Int:=x % 40
def genTo (x y:Int):Int:=if y % 11=0 then 1000000 else x % 40+1+y % 15
theorem gen_per (x y:Int):0≤genFrom x∧genFrom x<40∧genFrom x<genTo x y∧genTo x y≤1000000:=by
 unfold genFrom genTo
 split <;> omega
theorem period_gen (x y:Int) (w:World) (h0:0≤x) (h1:x≤65535) (h2:0≤y) (h3:y≤65535) :
  Calls Tryz.prog 122 #[.int .u16 x,.int .u16 y] w fun e w'=>e = .returned (.agg #[.int .i64 (genFrom x),.int .i64 (genTo x y)])∧Ext w w':=by
 by_cases h7:y % 11=0
 ·have hb:(y % 11==0)=true:=by simp [h7]
  have hv:genTo x y=1000000:=if_pos h7
  have HV:=Lib.hid hv
  clear h7 hv
  go_enter Tryz.func122,Tryz.ntmps122
  go_wp2_with fail
  exact bodyPost_ret (v:= .agg #[.int .i64 (genFrom x),.int .i64 (genTo x y)]) (by rw [HV.out];simp [results,Tryz.results122,go_sem,genFrom]) rfl ⟨rfl,((Ext.refl w).alloc _).alloc _⟩
 ·have hb:(y % 11==0)=false:=by simp [h7]
  have hv:genTo x y=x % 40+1+y % 15:=if_neg h7
  have HV:=Lib.hid hv
  clear h7 hv
  go_enter Tryz.func122,Tryz.ntmps122
  go_wp2_with fail
  exact bodyPost_ret (v:= .agg #[.int .i64 (genFrom x),.int .i64 (genTo x y)]) (by rw [HV.out];simp [results,Tryz.results122,go_sem,genFrom]) rfl ⟨rfl,((Ext.refl w).alloc _).alloc _⟩
end Go.Proofs.YtombmdaohcjokaaGreatDoor
