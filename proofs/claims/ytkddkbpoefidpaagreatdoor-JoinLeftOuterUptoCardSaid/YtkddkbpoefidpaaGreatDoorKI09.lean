/- joined texts of a proof: NormW, RefC, EvalC, AggW, PlainX, EvalF, EvalM -/
import Derived.Test.YtkddkbpoefidpaaGreatDoorKI07
import Derived.Test.YtkddkbpoefidpaaGreatDoorKI08
import Derived.Maps.Own
import Derived.Test.YtkddkbpoefidpaaGreatDoorKI04
import Derived.Test.YtkddkbpoefidpaaGreatDoorKI05
import Derived.WalkMore
import Derived.Test.YtkddkbpoefidpaaGreatDoorKI01
import Derived.Laws.Bits64
namespace Go.Proofs.YtkddkbpoefidpaaGreatDoor
open Go.RowKit Go.Maps
theorem MapV.ext {w w':World} {P:Program} {k:TypeId} {S:Value→Prop} {b n:Nat} {m:Lit→Option Value} (h:MapV w P k S b n m) (hx:Ext w w'):MapV w' P k S b n m:=h.kept (Ext.grows hx) (by simp)
theorem NInv.ext {w w' w'':World} {base:Nat} {T:TypeId} {l:List Tup} {m1 m2:Lit→Option Value} (h:NInv w w' base T l m1 m2) (hx:Ext w' w''):NInv w w'' base T l m1 m2:=h.keep (Ext.grows hx) (fun k hk=>by cases hk)
theorem RangeV.ext {w w':World} {P:Program} {k:TypeId} {S:Value→Prop} {b r n:Nat} {m:Lit→Option Value} {left:Lit→Bool} {cnt:Nat} (h:RangeV w P k S b r n m left cnt) (hx:Ext w w'):RangeV w' P k S b r n m left cnt:=h.kept (Ext.grows hx) (by simp) (by simp)
theorem ext_grown {a w w':World} {row:Option Nat} (h:Ext a w) (gr:w.grownBy w' row) (hr : ∀k,row=some k→a.heap.size≤k):Ext a w':=Below.grown h gr h.size hr
theorem cell_grown {w w':World} {row:Option Nat} {b o:Nat} {v:Value} (gr:w.grownBy w' row) (hc:w.cell? ⟨b,o,none⟩=some v) (hne : ∀k,row=some k→k≠b):w'.cell? ⟨b,o,none⟩=some v :=
 (World.cell?_of_block (w:=w) (gr.block b (cell_lt hc) (fun e=>hne b e.symm rfl))).trans hc
theorem off_grow {w w':World} {u:Value} {g a b:Nat} (gr:w.grownBy w' u.ownBlock) (hg:u.ownBlock=some g∨g=w.heap.size):Sub (on w (fun x=>u.ownBlock≠some x)) (on w' (fun x=>(Value.slice (some ⟨g,0,none⟩) a b).ownBlock≠some x)):=fun p v e=>by
 obtain⟨h1,h2⟩:=on_some.1 e
 have hlt:=World.block_lt_of_cell? w p h2
 refine on_some.2 ⟨fun e2=> ?_,(World.cell?_of_block (w:=w) (gr.block p.block hlt (fun e3=>h1 e3.symm))).trans h2⟩
 have e2:g=p.block:=Option.some.inj e2
 rcases hg with h | h
 ·exact h1 (by rw [←e2];exact h)
 ·omega
theorem key_str (l:List UInt8) (h:l.length≤maxLen):keyOf Tryz.prog 9 (.string ⟨l.toArray⟩)=some (.string l):=by
 rw [keyOf_string Tryz.underlying9]
 unfold mapKey
 rw [Tryz.underlying9]
 simp [ByteArray.size,h]
theorem info_tupN:(Tryz.prog.info? 96).map (fun i=>(i.zero,i.size,i.bytes))=some (some (.agg #[.slice none 0 0,.int .i64 0,.int .i64 0,.slice none 0 0]),Rep.tup.size,64):=by kernel_rfl
theorem zero_slP (w:World):(zeroValue 129).run Tryz.prog w = .ok (.slice none 0 0) w:=by kernel_rfl
def fitN (l:List Tup):Prop:=l.length≤65536∧ ∀t∈l,fitVals t.vals∧t.lin.length≤1048576
theorem keyRow_len {h1:View} {v:Value} {r:Row} (k:SliceOf Rep.val h1 v r.vals) (hl : ∀x∈r.lin,-9223372036854775808≤x∧x≤9223372036854775807) (hf:fitVals r.vals) (hf2:r.lin.length≤1048576):(keyRow r).length≤maxLen:=by
 have h2:=keyVals_len (vals_range k) hf.2
 have h3:=itoa_len (r.vals.length:Int) (by omega) (by have:=hf.1;omega)
 have h4 : ∀l:List Int,(∀x∈l,-9223372036854775808≤x∧x≤9223372036854775807)→(keyLin l).length≤22*l.length:=by
  intro l
  induction l with
  |nil=>intro _;exact Nat.zero_le _
  |cons x l ih =>
   intro h
   have:=ih fun y hy=>h y (by simp [hy])
   have:=itoa_len x (h x (by simp)).1 (h x (by simp)).2
   unfold keyLin at *
   rw [List.flatMap_cons,List.length_append,List.length_cons,List.length_cons]
   omega
 have h5:=h4 r.lin hl
 have h6:=hf.1
 unfold keyRow maxLen
 simp only [List.length_append,List.length_cons]
 omega
theorem ints_range {h:View} {v:Value} {xs:List Int} (k:SliceOf Rep.int h v xs) : ∀x∈xs,-9223372036854775808≤x∧x≤9223372036854775807:=by
 intro x hx
 obtain⟨i,hi,rfl⟩:=List.getElem_of_mem hx
 obtain⟨p,cap,rfl,_,_,hp⟩:=k.form
 obtain⟨b,o,rfl⟩:=hp (by decide) (by omega)
 exact(int_at k i hi).2
theorem persOf_len (r:Row) (l:List Tup):(persOf r l).length≤l.length:=by
 unfold persOf
 rw [List.length_map]
 exact Nat.le_trans (List.length_filter_le _ _) (List.length_filter_le _ _)
theorem levOf_len {P:List Int} {f:Nat→Nat} {n:Nat} (hf : ∀i,f i≤n) (k:Nat):(levOf P f k).2.length≤n*k∧(levOf P f k).1.length≤n:=by
 induction k with
 |zero=>exact⟨Nat.zero_le _,Nat.zero_le _⟩
 |succ k ih =>
  unfold levOf
  refine⟨?_,by rw [levStep_len];exact hf k⟩
  unfold levStep
  simp only [List.length_append,List.length_map,List.length_reverse,List.length_drop]
  rw [Nat.mul_succ]
  omega
theorem levels_len (ps:List Per):(levels ps).length≤ps.length*(2*ps.length):=by
 have h1:=(levOf_len (P:=levPts ps) (f:=levF ps) (n:=ps.length) (fun i=>by unfold levF cntAt;exact Nat.le_trans (List.length_filter_le _ _) (by simp)) (levPts ps).length).1
 have h2:(levPts ps).length≤2*ps.length:=by
  have h3:=(pts_law (ps.map perT)).2.2
  have h5:=bnd_len (ps.map perT)
  rw [List.length_map]at h5
  exact Nat.le_trans h3 h5
 exact Nat.le_trans h1 (Nat.mul_le_mul_left _ h2)
open Classical in
theorem filt_sum {α β:Type} (f:α→β) : ∀(done:List β) (l:List α),done.Nodup→(done.map fun r=>(l.filter fun t=>decide (f t=r)).length).sum≤l.length:=by
 intro done
 induction done with
 |nil=>intro l _;exact Nat.zero_le _
 |cons r done ih =>
  intro l hnd
  obtain⟨h1,h2⟩:=List.nodup_cons.1 hnd
  have h3:=ih (l.filter fun t=> !decide (f t=r)) h2
  have h4:(done.map fun s=>((l.filter fun t=> !decide (f t=r)).filter fun t=>decide (f t=s)).length)=done.map fun s=>(l.filter fun t=>decide (f t=s)).length:=by
   refine List.map_congr_left fun s hs=> ?_
   have hne:s≠r:=fun e=>h1 (e▸hs)
   rw [List.filter_filter]
   congr 2
   funext t
   by_cases h:f t=s
   ·simp [h,hne]
   ·simp [h]
  rw [h4]at h3
  have h5 : ∀m:List α,(m.filter fun t=>decide (f t=r)).length+(m.filter fun t=> !decide (f t=r)).length=m.length:=fun m=>by
   induction m with
   |nil=>rfl
   |cons y m ih =>
    rw [List.filter_cons,List.filter_cons]
    by_cases h:f y=r
    ·simp only [h,decide_true,Bool.not_true,if_true,Bool.false_eq_true,if_false,List.length_cons];omega
    ·simp only [h,decide_false,Bool.not_false,if_true,Bool.false_eq_true,if_false,List.length_cons];omega
  have h6:=h5 l
  rw [List.map_cons,List.sum_cons]
  omega
open Classical in
theorem normRaw_len2 {done:List Row} (l:List Tup) (hnd:done.Nodup):(normRaw done l).length≤2*l.length*l.length:=by
 have h : ∀ks:List Row,(normRaw ks l).length≤2*l.length*(ks.map fun r=>(persOf r l).length).sum:=fun ks=>by
  induction ks with
  |nil=>exact Nat.zero_le _
  |cons r ks ih =>
   unfold normRaw at *
   rw [List.flatMap_cons,List.length_append,List.length_map,List.map_cons,List.sum_cons,Nat.mul_add]
   have h1:=levels_len (persOf r l)
   have h2:=persOf_len r l
   have h3:(persOf r l).length*(2*(persOf r l).length)≤(2*l.length)*(persOf r l).length:=by
    rw [Nat.mul_comm]
    exact Nat.mul_le_mul_right _ (Nat.mul_le_mul_left _ h2)
   omega
 have h2:(done.map fun r=>(persOf r l).length).sum≤l.length:=by
  have h3:=filt_sum tupRow done (l.filter validT) hnd
  have h4:(done.map fun r=>(persOf r l).length)=done.map fun r=>((l.filter validT).filter fun t=>decide (tupRow t=r)).length:=by
   refine List.map_congr_left fun r _=> ?_
   unfold persOf
   rw [List.length_map]
  rw [h4]
  exact Nat.le_trans h3 (List.length_filter_le _ _)
 exact Nat.le_trans (h done) (Nat.mul_le_mul_left _ h2)
theorem normRaw_snoc (done:List Row) (r:Row) (l:List Tup):normRaw (done ++ [r]) l=normRaw done l++(levels (persOf r l)).map (tupOf r):=by
 unfold normRaw
 rw [List.flatMap_append,List.flatMap_cons,List.flatMap_nil,List.append_nil]
theorem own_grown {α:Type} {R:Rep α} {w w':World} {row:Option Nat} {S:Nat→Prop} {base:Nat} {e:TypeId} {v:Value} {xs:List α} (h:OwnOf R w S base e v xs) (gr:w.grownBy w' row) (hS : ∀k,S k→row≠some k) (hv : ∀k,v.ownBlock=some k→row≠some k):OwnOf R w' S base e v xs:=by
 obtain⟨css,h1,h2⟩:=h
 refine⟨css,h1.ext (grown_sub gr fun k hk e=>hS k hk.2 e.symm),h2.kept gr ?_⟩
 cases hb:v.ownBlock with
 |none=>exact .inl rfl
 |some k=>exact .inr fun e=>hv k hb e.symm
set_option maxRecDepth 100000 in
set_option maxHeartbeats 16000000 in
theorem normalize_any (v:Value) (l:List Tup) (w:World) (hv:SliceOf Rep.tup w.cell? v l) (hf:fitN l) (ht:TabW w) :
  Calls Tryz.prog 58 #[v] w fun e w'=> ∃v',e = .returned v'∧SliceOf Rep.tup (on w' (since w)) v' (normT l)∧Ext w w':=by
 obtain⟨i1,hi1,hz10,hz11,hz12⟩:=info_parts info_per
 obtain⟨i2,hi2,hz20,hz21,hz22⟩:=info_parts info_tupN
 have hmm:= @run_makeMap Tryz.prog
 obtain⟨p,cap,rfl,hc1,hc2,hp⟩:=hv.form
 obtain⟨N,hN⟩ : ∃N,N=l.length:=⟨_,rfl⟩
 have HV:=Lib.hid hv
 rw [←hN]
 have HN:=Lib.hid hN
 have HP:=Lib.hid hp
 have HF:=Lib.hid hf
 have HT:=Lib.hid ht
 have hNl:N≤65536:=by rw [hN];exact hf.1
 clear hv hN hp hc1 hc2 hf ht
 go_enter Tryz.func58,Tryz.ntmps58
 go_wp2_with fail
 obtain⟨b1,hb1⟩ : ∃b,b=w.heap.size:=⟨_,rfl⟩
 have HB1:=Lib.hid hb1
 have hM1:=MapV.made w Tryz.prog 9 ShRow
 have hM2:=MapV.made (w.alloc (.map #[] 0)) Tryz.prog 9 ShSl
 rw [show (w.alloc (.map #[] 0)).heap.size=w.heap.size+1 by simp]at hM2
 rw [←hb1]at hM1 hM2 ⊢
 go_loopg [17] N (fun gk vi wr=> ∃(k:Nat) (m1 m2:Lit→Option Value),k≤N∧gk=N - k∧vi = .int .i64 k∧Hid (MapV wr Tryz.prog 9 ShRow b1 k m1)∧Hid (MapV wr Tryz.prog 9 ShSl (b1+1) k m2)∧Hid (NInv w wr (b1+2) 94 (l.take k) m1 m2)∧Hid (b1+2≤wr.heap.size)∧Ext w wr)
 case atStart=>exact⟨0,_,_,by omega,rfl,rfl,hM1.alloc _,hM2,NInv.nil _ _ _ _,by show b1+2≤_;simp;omega,((Ext.refl w).alloc _).alloc _⟩
 case round =>
  clear hM1 hM2 hb1
  obtain⟨k,m1,m2,hk,rfl,rfl,M1,M2,NI,HSZ,hx⟩:=hrel
  by_cases hlt:k<N
  ·have hkl:k<l.length:=by have:=HN.out;omega
   have hd:decide ((k:Int)<(N:Int))=true:=by simp;omega
   obtain⟨b,o',rfl⟩:=HP.out (by decide) (by omega)
   have hv:=HV.out
   rw [←HN.out]at hv
   obtain⟨ta,tb,c0,c1,c2,c3,g0,g1,r1,r2⟩:=tup_at hv k hkl
   obtain⟨pa,ka,ta',_⟩:=g0.form
   obtain⟨pb,kb,tb',_⟩:=g1.form
   subst ta' tb'
   replace c0:=hx.at c0
   replace c1:=hx.at c1
   replace c2:=hx.at c2
   replace c3:=hx.at c3
   have hst:l.take (k+1)=l.take k ++ [l[k]]:=List.take_succ_eq_append_getElem hkl
   have hft:=HF.out.2 l[k] (List.getElem_mem hkl)
   generalize l[k]=y at c0 c1 c2 c3 g0 g1 r1 r2 hst hft
   obtain⟨vs,f,t,ln⟩:=y
   dsimp only at c0 c1 c2 c3 g0 g1 r1 r2 hst hft
   have HST:=Lib.hid hst
   have G0:=Lib.hid g0
   have G1:=Lib.hid g1
   have HFT:=Lib.hid hft
   have HR:=Lib.hid (show okI f∧okI t from ⟨r1,r2⟩)
   have e0:=cell_lt c0
   have HKL:=Lib.hid (keyRow_len (r:=⟨vs,ln⟩) g0 (ints_range g1) hft.1 hft.2)
   clear hst g0 g1 r1 r2 hv hft
   go_wp2_with fail
   refine(valid_any f t _).mono ?_
   rintro e w1 ⟨rfl,x1⟩
   have d0:w1.cell? ⟨wr.heap.size,0,none⟩=some (.slice pa vs.length ka):=x1.at (by go_simp)
   have d1:w1.cell? ⟨wr.heap.size,1,none⟩=some (.int .i64 f):=x1.at (by go_simp)
   have d2:w1.cell? ⟨wr.heap.size,2,none⟩=some (.int .i64 t):=x1.at (by go_simp)
   have d3:w1.cell? ⟨wr.heap.size,3,none⟩=some (.slice pb ln.length kb):=x1.at (by go_simp)
   have X1:=Lib.hid (show Ext wr w1 from ((Ext.refl wr).alloc _).trans x1)
   clear x1 c0 c1 c2 c3 e0
   cases hvb:validB f t with
   |true =>
    have HVB:=Lib.hid hvb
    have e1:=cell_lt d0
    clear hvb
    go_wp2_with fail
    refine(rowKey_any pa pb ka kb f t vs ln _ (G0.out.ext (hx.trans X1.out).full) (G1.out.ext (hx.trans X1.out).full) HFT.out.1 HFT.out.2 (HT.out.ext (hx.trans X1.out))).mono ?_
    rintro e w2 ⟨rfl,x2⟩
    replace d0:=x2.at d0
    replace d1:=x2.at d1
    replace d2:=x2.at d2
    replace d3:=x2.at d3
    have X2:=Lib.hid (X1.out.trans x2)
    have e2:=cell_lt d0
    clear x2 X1 e1
    go_wp2_with fail
    refine(tup_row pa pb vs.length ka ln.length kb f t _).mono ?_
    rintro e w3 ⟨rfl,x3⟩
    replace d1:=x3.ext.at d1
    replace d2:=x3.ext.at d2
    have X3:=Lib.hid (X2.out.trans x3.ext)
    have e3:=cell_lt d1
    have HW3:=Lib.hid (show b1+2≤wr.heap.size∧wr.heap.size≤w3.heap.size from ⟨HSZ.out,X3.out.size⟩)
    have M13:=Lib.hid (M1.out.ext X3.out)
    have M23:=Lib.hid (M2.out.ext X3.out)
    have NI3:=Lib.hid (NI.out.ext X3.out)
    have hx3:=hx.trans X3.out
    clear x3 X2 e2 d0 d3 M1 M2 NI hx X3
    go_wp2_with (at_mapUpdate;refine wpList_store_v _ rfl _ _ _ 178 rfl 9 70 (string_keyed Tryz.underlying9) Tryz.underlying178 ShRow b1 k m1 rfl M13.out (by unfold maxLen;omega) _ _ (keyL ⟨vs,ln⟩) rfl rfl (key_str _ HKL.out) ⟨⟨pa,vs.length,ka,pb,ln.length,kb⟩,rfl⟩ ?_)
    intro w4 m4 gr4
    have hb1w : ∀x,(some b1:Option Nat)=some x→x=b1:=fun x e=>(Option.some.inj e).symm
    have M14:=Lib.hid m4
    have M24:=Lib.hid (M23.out.kept gr4 (by simp))
    have NI4:=Lib.hid (NI3.out.keep gr4 (fun x e=>by have:=hb1w x e;omega))
    replace d1:=cell_grown gr4 d1 (fun x e=>by have:=hb1w x e;have:=HW3.out;omega)
    replace d2:=cell_grown gr4 d2 (fun x e=>by have:=hb1w x e;have:=HW3.out;omega)
    have X4:=Lib.hid (ext_grown hx3 gr4 (fun x e=>by have:=hb1w x e;have:=HB1.out;omega))
    have HW4:=Lib.hid (show b1+2≤w4.heap.size from Nat.le_trans (by have:=HW3.out;omega) gr4.size)
    have e4:=cell_lt d1
    clear m4 gr4 M13 M23 NI3 hx3 e3 HW3 hb1w
    go_wp2_with (at_lookup;refine wpList_lookup_v _ rfl _ _ 179 rfl 9 129 (string_keyed Tryz.underlying9) Tryz.underlying179 (.slice none 0 0) (zero_slP _) ShSl ⟨_,_,_,rfl⟩ (b1+1) k m2 rfl M24.out _ (keyL ⟨vs,ln⟩) rfl (key_str _ HKL.out) ?_)
    intro vp HVP hsp
    have own4:=NI4.out.own ⟨vs,ln⟩
    rw [←HVP.out]at own4
    obtain⟨p9,n9,c9,rfl⟩:=hsp
    have OW4:=Lib.hid own4
    have hpl:=persOf_len ⟨vs,ln⟩ (l.take k)
    have hpl2:(persOf ⟨vs,ln⟩ (l.take k)).length≤65536:=Nat.le_trans hpl (Nat.le_trans (List.length_take_le _ _) (by omega))
    obtain⟨pl,hpl3⟩ : ∃x,x=persOf ⟨vs,ln⟩ (l.take k):=⟨_,rfl⟩
    rw [←hpl3]at OW4 hpl2
    have HPL:=Lib.hid hpl3
    have B1:pl.length+1≤maxLen:=by unfold maxLen;omega
    have B2:(pl.length+1)*16≤140737488355328:=by omega
    clear own4 hpl hpl3
    go_wp2_with (at_builtin;refine wpList_append_one Rep.per (fun _=>True) rfl _ _ 129 rfl (b1+2) 94 i1 _ 16 Tryz.underlying129 hi1 hz10 hz11 hz12 rfl (by decide) (.slice p9 n9 c9) pl rfl (OW4.out.ext ((Ext.refl w4).alloc _)) ⟨w4.heap.size,0,none⟩ 1 ⟨f,t⟩ [.int .i64 f,.int .i64 t] rfl ⟨rfl,HR.out⟩ (by exact cells_new w4 [.int .i64 f,.int .i64 t] _) B1 B2 (Nat.le_trans HW4.out ((Ext.refl w4).alloc _).size) ?_)
    intro g5 cap5 w5 own5 gr5 hg5
    have hbase5 : ∀x,(Value.slice p9 n9 c9).ownBlock=some x→b1+2≤x:=fun x e=>(OW4.out.lt x e).1
    have NI5:=Lib.hid (NInv.step (NI4.out.ext ((Ext.refl w4).alloc (.cells #[.int .i64 f,.int .i64 t] 94))) (t:=⟨vs,f,t,ln⟩) HVB.out (x:=⟨pa,vs.length,ka,pb,ln.length,kb⟩) ⟨rfl,rfl,G0.out,G1.out⟩ (g:=g5) (a:=pl.length+1) (b:=cap5) (by show OwnOf Rep.per _ _ _ _ _ (persOf ⟨vs,ln⟩ (l.take k)++_);rw [←HPL.out];exact own5) (by show World.grownBy _ _ (Option.getD (m2 (keyL ⟨vs,ln⟩)) _).ownBlock;rw [←HVP.out];exact gr5) (by show (Option.getD (m2 (keyL ⟨vs,ln⟩)) _).ownBlock=_∨_;rw [←HVP.out];rcases hg5 with h | h;exact .inl h;exact .inr (by rw [h];simp)))
    have M15:=Lib.hid ((M14.out.ext ((Ext.refl w4).alloc _)).kept gr5 (fun e=>by have:=hbase5 _ e.symm;omega))
    have M25:=Lib.hid ((M24.out.ext ((Ext.refl w4).alloc _)).kept gr5 (fun e=>by have:=hbase5 _ e.symm;omega))
    have X5:=Lib.hid (ext_grown (X4.out.alloc _) gr5 (fun x e=>by have:=hbase5 x e;have:=HB1.out;omega))
    have HW5:=Lib.hid (show b1+2≤w5.heap.size from Nat.le_trans HW4.out (Nat.le_trans ((Ext.refl w4).alloc _).size gr5.size))
    clear own5 gr5 hg5 hbase5 NI4 M14 M24 X4 HW4 d1 d2 e4 OW4 HVP
    go_wp2_with (at_mapUpdate;refine wpList_store_v _ rfl _ _ _ 179 rfl 9 129 (string_keyed Tryz.underlying9) Tryz.underlying179 ShSl (b1+1) k m2 rfl M25.out (by unfold maxLen;omega) _ _ (keyL ⟨vs,ln⟩) rfl rfl (key_str _ HKL.out) ⟨_,_,_,rfl⟩ ?_)
    intro w6 m6 gr6
    have hb2w : ∀x,(some (b1+1):Option Nat)=some x→x=b1+1:=fun x e=>(Option.some.inj e).symm
    have M26:=Lib.hid m6
    have M16:=Lib.hid (M15.out.kept gr6 (by simp))
    have NI6:=Lib.hid (NI5.out.keep gr6 (fun x e=>by have:=hb2w x e;omega))
    have X6:=Lib.hid (ext_grown X5.out gr6 (fun x e=>by have:=hb2w x e;have:=HB1.out;omega))
    have HW6:=Lib.hid (show b1+2≤w6.heap.size from Nat.le_trans HW5.out gr6.size)
    clear m6 gr6 M15 M25 NI5 X5 HW5 hb2w
    go_wp2_with fail
    go_roundg (N - (k+1))
    case measure=>omega
    case rel=>exact⟨k+1,_,_,by omega,rfl,by go_num,M16.out,M26.out,by rw [HST.out];exact NI6.out,HW6.out,X6.out⟩
   |false =>
    have HVB:=Lib.hid hvb
    clear hvb d0 d1 d2 d3
    go_wp2_with fail
    go_roundg (N - (k+1))
    case measure=>omega
    case rel=>exact⟨k+1,m1,m2,by omega,rfl,by go_num,(M1.out.ext X1.out).mono (Nat.le_succ k),(M2.out.ext X1.out).mono (Nat.le_succ k),by rw [HST.out];exact(NI.out.ext X1.out).skip HVB.out,Nat.le_trans HSZ.out X1.out.size,hx.trans X1.out⟩
  ·have hkN:k=N:=by omega
   have hd : ¬(k:Int)<(N:Int):=by omega
   subst hkN
   have NIL:=Lib.hid (show NInv w wr (b1+2) 94 l m1 m2 from by
    have h:=NI.out
    rw [HN.out,List.take_length]at h
    exact h)
   clear NI hk
   go_wp2_with (at_range;refine wpList_range_v _ rfl _ 178 rfl 9 70 (string_keyed Tryz.underlying9) Tryz.underlying178 ShRow b1 k m1 rfl M1.out ?_)
   intro w2 left0 cnt0 rg2 hleft0 hcnt0 gr2 sz2
   obtain⟨rb,hrb⟩ : ∃r,r=wr.heap.size:=⟨_,rfl⟩
   rw [←hrb]at rg2 ⊢
   have RG2:=Lib.hid rg2
   have M22:=Lib.hid (M2.out.kept gr2 (by simp))
   have NI2:=Lib.hid (NIL.out.keep gr2 (fun k hk=>by cases hk))
   have X2:=Lib.hid (ext_grown hx gr2 (fun x e=>by cases e))
   have HRB:=Lib.hid (show w.heap.size+2≤rb∧b1+2≤rb∧rb<w2.heap.size from ⟨by have:=HB1.out;have:=HSZ.out;omega,by rw [hrb];exact HSZ.out,by rw [sz2,hrb];omega⟩)
   have HLF:=Lib.hid hleft0
   have HM2B:=Lib.hid (show ∀kl v x,m2 kl=some v→v.ownBlock=some x→x<rb from fun kl v x hm hx=>by rw [hrb];exact NIL.out.below kl v x hm hx)
   clear rg2 hrb hx gr2 sz2 M1 M2 NIL HSZ hleft0
   go_wp2_with fail
   go_loopg [8] k (fun gk vo wr=> ∃(left:Lit→Bool) (cnt:Nat) (done:List Row) (u:Value),cnt≤gk∧u=vo∧Hid (RangeV wr Tryz.prog 9 ShRow b1 rb k m1 left cnt)∧Hid (MapV wr Tryz.prog 9 ShSl (b1+1) k m2)∧Hid (NInv w wr (b1+2) 94 l m1 m2)∧Hid (DoneR m1 left done)∧Hid (done.length+cnt≤k)∧Hid (OwnOf Rep.tup wr (fun x=>rb<x) (rb+1) 96 u (normRaw done l))∧Hid (rb<wr.heap.size)∧Hid (Ext w wr))
   case atStart=>exact⟨left0,cnt0,[],_,hcnt0,rfl,RG2.out,M22.out,NI2.out,DoneR.start HLF.out,by show 0+cnt0≤k;omega,OwnOf.nil _ _ _ _ _,HRB.out.2.2,X2.out⟩
   case round =>
    clear RG2 M22 NI2 X2
    obtain⟨left,cnt,done,u,hgk,rfl,RG,M2,NI,DO,HDL,OU,HRW,HX⟩:=hrel
    have HUB:=Lib.hid (show ∀x,u.ownBlock=some x→rb+1≤x from fun x hx=>(OU.out.lt x hx).1)
    have hnl:(normRaw done l).length≤137438953472:=by
     have h1:=normRaw_len2 l DO.out.1
     have h2:=HDL.out
     have h3:=HN.out
     have h4:2*l.length*l.length≤2*65536*65536:=Nat.mul_le_mul (Nat.mul_le_mul_left _ (by omega)) (by omega)
     omega
    have HNL:=Lib.hid hnl
    clear hnl
    go_wp2_with (at_next;refine wpList_next_v _ rfl _ rfl 9 Tryz.underlying9 (string_keyed Tryz.underlying9) ShRow mkRow (fun v h=>h) b1 rb k m1 left cnt rfl RG.out ?_ ?_)
    ·intro hc0 hl0
     have HALL:=Lib.hid (DO.out.all NI.out hl0)
     clear hl0 hc0 RG M2 hgk
     go_wp2_with fail
     refine(sort_tups_call _ _ _ _ _ (normRaw done l) OU.out (by have:=HNL.out;omega)).mono ?_
     rintro e w4 ⟨rfl,own4,gr4⟩
     have hfin:sortBy cmpTup (normRaw done l)=normT l:=normT_of DO.out.1 HALL.out (List.Perm.refl _)
     rw [hfin]at own4
     have X4:=Lib.hid (ext_grown HX.out gr4 (fun x e=>by have:=HUB.out x e;have:=HRB.out;omega))
     have OW:=Lib.hid own4
     clear own4 gr4 hfin
     go_wp2_with fail
     go_ret
     exact⟨u,rfl,OW.out.sliceIn (fun x _ hx=>by have:=HRB.out;show w.heap.size≤x;omega) (fun x hx=>by have:=HRB.out;show w.heap.size≤x;omega),X4.out⟩
    ·intro x c w1 cnt1 hkey hlk hmp hS hrg hlt hg1 hs1 hen
     obtain⟨t0,ht0,hvt0,hkl0,x',hx',hrv⟩:=NI.out.k1 _ _ hmp
     obtain⟨r,hr⟩ : ∃r,r=tupRow t0:=⟨_,rfl⟩
     rw [←hr]at hkl0 hrv
     have hcx:c=x':=by
      unfold mkRow at hx'
      injection hx' with h1
      have h2:=congrArg (fun a:Array Value=>a.toList) h1
      simp only [List.cons.injEq,Value.slice.injEq,and_true]at h2
      obtain⟨cp,cn,cc,cq,cm,cd⟩:=c
      obtain⟨xp,xn,xc,xq,xm,xd⟩:=x'
      simp only at h2
      obtain⟨⟨rfl,rfl,rfl⟩,rfl,rfl,rfl⟩:=h2
      rfl
     subst hcx
     have hmk:(m1 (keyL r)).isSome=true:=by rw [←hkl0,hmp];rfl
     rw [hkl0]at hrg hlk hkey
     have DO2:=Lib.hid (DO.out.step hmk hlk)
     have HDL2:=Lib.hid (show (done ++ [r]).length+cnt1≤k from by have:=HDL.out;rw [List.length_append,List.length_singleton];omega)
     obtain⟨cp,cn,cc,cq,cm,cd⟩:=c
     obtain⟨hcn,hcm,hv1,hv2⟩:=hrv
     simp only at hcn hcm hv1 hv2
     subst hcn hcm
     have HV1:=Lib.hid hv1
     have HV2:=Lib.hid hv2
     have HFR:=Lib.hid (show fitVals r.vals∧r.lin.length≤1048576 from by rw [hr];exact HF.out.2 t0 ht0)
     have HKX:=Lib.hid (show x.data.toList=keyRow r from by have h:=hkl0;unfold keyL at h;exact Lit.string.inj h)
     have hrw : ∀y,(some rb:Option Nat)=some y→y=rb:=fun y e=>(Option.some.inj e).symm
     have RG1:=Lib.hid hrg
     have M21:=Lib.hid (M2.out.kept hg1 (by have:=HRB.out;simp;omega))
     have NI1:=Lib.hid (NI.out.keep2 hg1 (fun kl v y hm hy e=>by have:=hrw y e;have:=HM2B.out kl v y hm hy;omega))
     have OU1:=Lib.hid (own_grown OU.out hg1 (fun y hy e=>by have:=hrw y e;omega) (fun y hy e=>by have:=hrw y e;have:=HUB.out y hy;omega))
     have X1:=Lib.hid (ext_grown HX.out hg1 (fun y e=>by have:=hrw y e;have:=HRB.out;omega))
     have HRW1:=Lib.hid (show rb<w1.heap.size from by rw [hs1];exact HRW.out)
     have HCN:=Lib.hid (show cnt1<cnt from hlt)
     clear hmp hS hx' hkl0 hr ht0 hvt0 hmk hlk hrg hg1 hs1 hv1 hv2 RG M2 NI DO HDL OU HRW HX hrw hlt
     unfold mkRow at hen ⊢
     dsimp only at hen ⊢
     have HKEY:=Lib.hid hkey
     clear hkey
     go_wp2_with (at_lookup;refine wpList_lookup_v _ rfl _ _ 179 rfl 9 129 (string_keyed Tryz.underlying9) Tryz.underlying179 (.slice none 0 0) (zero_slP _) ShSl ⟨_,_,_,rfl⟩ (b1+1) k m2 rfl (M21.out.ext ((Ext.refl w1).alloc _)) _ (keyL r) rfl HKEY.out ?_)
     intro vp HVP hsp
     have own4:=(NI1.out.ext ((Ext.refl w1).alloc (.cells #[.slice cp r.vals.length cc,.slice cq r.lin.length cd] 70))).own r
     rw [←HVP.out]at own4
     obtain⟨p9,n9,c9,rfl⟩:=hsp
     have S4:=Lib.hid own4.slice
     have hpl:=persOf_len r l
     have HPL:=Lib.hid (show (persOf r l).length≤65536 from by have:=HN.out;omega)
     clear own4 hpl HVP hen
     go_wp2_with fail
     refine(levels_any _ (persOf r l) _ S4.out (persOf_valid r l) (by have:=HPL.out;omega)).mono ?_
     rintro e w3 ⟨v3,rfl,own3,x3⟩
     have a0:w3.cell? ⟨w1.heap.size,0,none⟩=some (.slice cp r.vals.length cc):=x3.at (by go_simp)
     have a1:w3.cell? ⟨w1.heap.size,1,none⟩=some (.slice cq r.lin.length cd):=x3.at (by go_simp)
     have X13:Ext w1 w3:=((Ext.refl w1).alloc _).trans x3
     have RG3:=Lib.hid (RG1.out.ext X13)
     have M23:=Lib.hid (M21.out.ext X13)
     have NI3:=Lib.hid (NI1.out.ext X13)
     have OU3:=Lib.hid (OU1.out.ext X13)
     have X3:=Lib.hid (X1.out.trans X13)
     have OL3:=Lib.hid own3
     have FR3:=Lib.hid (show SliceOf Rep.per (on w3 (fun x=>w1.heap.size+1≤x)) v3 (levels (persOf r l))from by have h:=own3.fresh flat_per;rw [show (w1.alloc (.cells #[.slice cp r.vals.length cc,.slice cq r.lin.length cd] 70)).heap.size=w1.heap.size+1 by simp]at h;exact h)
     have HB3:=Lib.hid (show rb<w1.heap.size∧w1.heap.size<w3.heap.size∧(∀x,u.ownBlock=some x→x<w1.heap.size)∧ ∀x,v3.ownBlock=some x→w1.heap.size<x from ⟨HRW1.out,cell_lt a0,fun x hx=>(OU1.out.lt x hx).2,fun x hx=>by have:=(own3.lt x hx).1;simp at this;omega⟩)
     generalize w1.heap.size=B10 at a0 a1 HB3 FR3 ⊢
     have HLL:=Lib.hid (levels_len (persOf r l))
     obtain⟨pl3,cl3,rfl,hpl3⟩:=own3.shapeL
     obtain⟨lv,hlv⟩ : ∃x,x=levels (persOf r l):=⟨_,rfl⟩
     have hlvn:lv.length≤8589934592:=by
      rw [hlv]
      have h1:=HLL.out
      have h2:(persOf r l).length*(2*(persOf r l).length)≤65536*(2*65536):=Nat.mul_le_mul HPL.out (Nat.mul_le_mul_left _ HPL.out)
      omega
     rw [←hlv]at OL3 hpl3 HB3 FR3 ⊢
     have HLV:=Lib.hid hlv
     obtain⟨M,hM⟩ : ∃M,M=lv.length:=⟨_,rfl⟩
     rw [←hM]at OL3 hlvn HB3 FR3 ⊢
     have HM:=Lib.hid hM
     have HPL3:=Lib.hid hpl3
     obtain⟨nr,hnr⟩ : ∃x,x=normRaw done l:=⟨_,rfl⟩
     rw [←hnr]at OU3
     have HNR:=Lib.hid hnr
     have HNL2:=Lib.hid (show nr.length≤137438953472 from by rw [hnr];exact HNL.out)
     have e3:=cell_lt a0
     clear own3 x3 X13 hlv hM hpl3 hnr RG1 M21 NI1 OU1 X1 HRW1 S4 HUB
     go_wp2_with fail
     go_loopg [8,52] M (fun gk vo vi wr=> ∃(j:Nat) (u:Value),j≤M∧gk=M - j∧vi = .int .i64 j∧u=vo∧Hid (RangeV wr Tryz.prog 9 ShRow b1 rb k m1 (fun z=>left z && !z.sameKey (keyL r)) cnt1)∧Hid (MapV wr Tryz.prog 9 ShSl (b1+1) k m2)∧Hid (NInv w wr (b1+2) 94 l m1 m2)∧Hid (OwnOf Rep.tup wr (fun x=>rb<x) (rb+1) 96 u (nr++(lv.take j).map (tupOf r)))∧Hid (SliceOf Rep.per (on wr (fun x=>u.ownBlock≠some x)) (.slice pl3 M cl3) lv)∧Hid (∀x,u.ownBlock=some x→x≠B10)∧wr.cell? ⟨B10,0,none⟩=some (.slice cp r.vals.length cc)∧wr.cell? ⟨B10,1,none⟩=some (.slice cq r.lin.length cd)∧Hid (Ext w wr))
     case atStart =>
      have hu:=HB3.out.2.2.1
      refine⟨0,u,by omega,rfl,rfl,rfl,RG3.out,M23.out,NI3.out,by rw [List.take_zero];show OwnOf Rep.tup _ _ _ _ _ (nr ++ []);rw [List.append_nil];exact OU3.out,FR3.out.ext (on_mono w3 fun x _ hx e=> ?_),fun x hx e=>by have:=hu x hx;omega,a0,a1,X3.out⟩
      have:=hu x e
      omega
     case round =>
      clear RG3 M23 NI3 OU3 OL3 FR3 X3 a0 a1 e3
      have HUB3:=Lib.hid HB3.out.1
      clear HB3
      obtain⟨j,u,hj,rfl,rfl,rfl,RG,M2,NI,OU,SL,HUX,a0,a1,HX⟩:=hrel
      by_cases hlt3:j<M
      ·have hjl:j<lv.length:=by have:=HM.out;omega
       have hdj:decide ((j:Int)<(M:Int))=true:=by simp;omega
       obtain⟨gl,rfl⟩:=HPL3.out (by omega)
       obtain⟨b0,b1',q0,q1⟩:=per_at SL.out j hjl
       replace b0:=(on_some.1 b0).2
       replace b1':=(on_some.1 b1').2
       simp only [Nat.zero_add]at b0 b1'
       have hst:nr++(lv.take (j+1)).map (tupOf r)=(nr++(lv.take j).map (tupOf r)) ++ [tupOf r lv[j]]:=by rw [List.take_succ_eq_append_getElem hjl,List.map_append,←List.append_assoc];rfl
       obtain⟨ys,hys⟩ : ∃x,x=nr++(lv.take j).map (tupOf r):=⟨_,rfl⟩
       rw [←hys]at OU hst
       have hyl:ys.length≤274877906944:=by rw [hys,List.length_append,List.length_map];have:=HNL2.out;have:=List.length_take_le j lv;omega
       obtain⟨⟨f,t⟩,hpj⟩ : ∃x,x=lv[j]:=⟨_,rfl⟩
       rw [←hpj]at b0 b1' q0 q1 hst
       dsimp only at b0 b1' q0 q1
       have HST:=Lib.hid hst
       have HQ:=Lib.hid (show okI f∧okI t from ⟨q0,q1⟩)
       have e3:=cell_lt a0
       have e4:=cell_lt b0
       have B1:ys.length+1≤maxLen:=by unfold maxLen;omega
       have B2:(ys.length+1)*64≤140737488355328:=by omega
       have HUL:=Lib.hid (show ∀x,u.ownBlock=some x→rb+1≤x∧x<wr.heap.size from fun x hx=>OU.out.lt x hx)
       have HRBW:=Lib.hid (show rb<wr.heap.size from by have:=HUB3.out;omega)
       clear hst hys hyl hpj q0 q1 hjl
       go_wp2_with fail
       refine(during_any _ _ r f t _ (HV1.out.ext ((HX.out.alloc _)).full) (HV2.out.ext ((HX.out.alloc _)).full) HFR.out.1.1 HFR.out.2).mono ?_
       rintro e w4 ⟨da,db,rfl,sa,sb,x4⟩
       obtain⟨pa4,ka4,rfl,_⟩:=sa.form
       obtain⟨pb4,kb4,rfl,_⟩:=sb.form
       have SA:=Lib.hid sa
       have SB:=Lib.hid sb
       have X4:=Lib.hid (show Ext wr w4 from ((Ext.refl wr).alloc _).trans x4)
       have HS4:=Lib.hid (show wr.heap.size≤w4.heap.size from X4.out.size)
       clear sa sb x4 b0 b1' e3 e4
       go_wp2_with (at_builtin;refine wpList_append_one Rep.tup (fun x=>rb<x) rfl _ _ 22 rfl (rb+1) 96 i2 _ 64 Tryz.underlying22 hi2 hz20 hz21 hz22 rfl (by decide) u ys rfl (OU.out.ext (X4.out.alloc _)) ⟨w4.heap.size,0,none⟩ 1 (tupOf r ⟨f,t⟩) [.slice pa4 r.vals.length ka4,.int .i64 f,.int .i64 t,.slice pb4 r.lin.length kb4] rfl (by
        have hsub : ∀(o:Obj),Sub (on w4 (since (wr.alloc (.cells #[.int .i64 f,.int .i64 t] 94)))) (on (w4.alloc o) (avoid (fun x=>rb<x) u)):=fun o=>(on_mono w4 fun x _ hx=>⟨fun e=>by have:=(HUL.out x e.symm).2;simp [since]at hx;omega,by have:=HRBW.out;simp [since]at hx;omega⟩).trans (((Ext.refl w4).alloc o).sub _)
        exact⟨_,_,rfl,SA.out.ext (hsub _),SB.out.ext (hsub _),HQ.out.1,HQ.out.2⟩) (by exact cells_new w4 [.slice pa4 r.vals.length ka4,.int .i64 f,.int .i64 t,.slice pb4 r.lin.length kb4] _) B1 B2 (by have h1:=((Ext.refl w4).alloc (.cells #[.slice pa4 r.vals.length ka4,.int .i64 f,.int .i64 t,.slice pb4 r.lin.length kb4] 96)).size;have:=HS4.out;have:=HRBW.out;exact Nat.le_trans (by omega) h1) ?_)
       intro g5 cap5 w5 own5 gr5 hg5
       have X4a:=X4.out.alloc (.cells #[.slice pa4 r.vals.length ka4,.int .i64 f,.int .i64 t,.slice pb4 r.lin.length kb4] 96)
       have hub : ∀x,u.ownBlock=some x→rb<x:=fun x hx=>by have:=(HUL.out x hx).1;omega
       have hg5':u.ownBlock=some g5∨g5=(w4.alloc (.cells #[.slice pa4 r.vals.length ka4,.int .i64 f,.int .i64 t,.slice pb4 r.lin.length kb4] 96)).heap.size:=by rcases hg5 with h | h;exact .inl h;exact .inr (by rw [h];simp)
       have RG5:=Lib.hid ((RG.out.ext X4a).kept gr5 (fun e=>by have:=hub _ e.symm;have:=HRB.out;omega) (fun e=>by have:=hub _ e.symm;omega))
       have M25:=Lib.hid ((M2.out.ext X4a).kept gr5 (fun e=>by have:=hub _ e.symm;have:=HRB.out;omega))
       have NI5:=Lib.hid ((NI.out.ext X4a).keep2 gr5 (fun kl v x hm hx e=>by have:=hub x e;have:=HM2B.out kl v x hm hx;omega))
       have SL5:=Lib.hid ((SL.out.ext (X4a.sub _)).ext (off_grow (a:=ys.length+1) (b:=cap5) gr5 hg5'))
       have HUX5:=Lib.hid (show ∀x,(Value.slice (some ⟨g5,0,none⟩) (ys.length+1) cap5).ownBlock=some x→x≠B10 from fun x hx e=>by
        have hx':g5=x:=Option.some.inj hx
        rcases hg5' with h | h
        ·exact HUX.out _ (by rw [←hx'];exact h) e
        ·have h1:=cell_lt (X4a.at a0);omega)
       have A0:=cell_grown gr5 (X4a.at a0) (fun x hx=>HUX.out x hx)
       have A1:=cell_grown gr5 (X4a.at a1) (fun x hx=>HUX.out x hx)
       have HX5:=Lib.hid (ext_grown (HX.out.trans X4a) gr5 (fun x hx=>by have:=hub x hx;have:=HRB.out;omega))
       have OU5:=Lib.hid (show OwnOf Rep.tup w5 (fun x=>rb<x) (rb+1) 96 (.slice (some ⟨g5,0,none⟩) (ys.length+1) cap5) (nr++(lv.take (j+1)).map (tupOf r))from by rw [HST.out];exact own5)
       clear own5 gr5 hg5 hg5' X4a hub RG M2 NI OU SL HUX a0 a1 HX SA SB X4 HUL
       go_wp2_with fail
       go_roundg (M - (j+1))
       case measure=>omega
       case rel=>exact⟨j+1,_,by omega,rfl,by go_num,rfl,RG5.out,M25.out,NI5.out,OU5.out,SL5.out,HUX5.out,A0,A1,HX5.out⟩
      ·have hjM:j=M:=by omega
       have hdj : ¬(j:Int)<(M:Int):=by omega
       have OUF:=Lib.hid (show OwnOf Rep.tup wr (fun x=>rb<x) (rb+1) 96 u (normRaw (done ++ [r]) l)from by
        have h:=OU.out
        rw [hjM,HM.out,List.take_length,HNR.out,HLV.out,←normRaw_snoc]at h
        exact h)
       have HRBW:=Lib.hid (show rb<wr.heap.size from by have:=HUB3.out;have:=cell_lt a0;omega)
       clear hjM OU
       go_wp2_with fail
       go_roundg (cnt1)
       case measure=>have:=HCN.out;omega
       case rel=>exact⟨_,cnt1,done ++ [r],u,Nat.le_refl _,rfl,RG.out,M2.out,NI.out,DO2.out,HDL2.out,OUF.out,HRBW.out,HX.out⟩
end Go.Proofs.YtkddkbpoefidpaaGreatDoor
namespace Go.Proofs.YtkddkbpoefidpaaGreatDoor
open Go.RowKit
def Free2 (w:World) (B:Nat):Prop:=(∃u,w.cell? ⟨B,0,none⟩=some u)∧(∃u,w.cell? ⟨B,1,none⟩=some u)∧w.frozen? ⟨B,0,none⟩=false∧w.frozen? ⟨B,1,none⟩=false
theorem Free2.ext {w w':World} {B:Nat} (h:Free2 w B) (hx:Ext w w'):Free2 w' B:=by
 obtain⟨⟨a,ha⟩,⟨b,hb⟩,fa,fb⟩:=h
 exact⟨⟨a,hx.at ha⟩,⟨b,hx.at hb⟩,hx.unfrozen ha fa,hx.unfrozen hb fb⟩
theorem Free2.grownC {w w':World} {B:Nat} {row:Option Nat} (h:Free2 w B) (gr:w.grownBy w' row) (hne : ∀k,row=some k→k≠B):Free2 w' B:=by
 obtain⟨⟨a,ha⟩,⟨b,hb⟩,fa,fb⟩:=h
 have hk:=gr.block B (cell_lt ha) (fun e=>hne B e.symm rfl)
 exact⟨⟨a,(World.cell?_of_block (w:=w) hk).trans ha⟩,⟨b,(World.cell?_of_block (w:=w) hk).trans hb⟩,(World.frozen?_of_block (w:=w) hk).trans fa,(World.frozen?_of_block (w:=w) hk).trans fb⟩
theorem keepX4 {W wa wb:World} {b1 b2 b3 b4 o1 o2 o3 o4:Nat} {v1 v2 v3 v4:Value} {row:Option Nat}
  (h:Ext W wa∧wa.cell? ⟨b1,o1,none⟩=some v1∧wa.cell? ⟨b2,o2,none⟩=some v2∧wa.cell? ⟨b3,o3,none⟩=some v3∧wa.cell? ⟨b4,o4,none⟩=some v4) (gr:wa.grownBy wb row) (hr : ∀k,row=some k→W.heap.size≤k) (hb : ∀k,row=some k→k≠b1∧k≠b2∧k≠b3∧k≠b4) :
  Ext W wb∧wb.cell? ⟨b1,o1,none⟩=some v1∧wb.cell? ⟨b2,o2,none⟩=some v2∧wb.cell? ⟨b3,o3,none⟩=some v3∧wb.cell? ⟨b4,o4,none⟩=some v4 :=
 ⟨ext_grown h.1 gr hr,cell_grown gr h.2.1 fun k hk=>(hb k hk).1,cell_grown gr h.2.2.1 fun k hk=>(hb k hk).2.1,cell_grown gr h.2.2.2.1 fun k hk=>(hb k hk).2.2.1,cell_grown gr h.2.2.2.2 fun k hk=>(hb k hk).2.2.2⟩
theorem keepS4 {W wa:World} {B b1 b2 b3 b4 o1 o2 o3 o4:Nat} {u0 u1 v1 v2 v3 v4:Value}
  (h:Ext W wa∧wa.cell? ⟨b1,o1,none⟩=some v1∧wa.cell? ⟨b2,o2,none⟩=some v2∧wa.cell? ⟨b3,o3,none⟩=some v3∧wa.cell? ⟨b4,o4,none⟩=some v4) (hB:W.heap.size≤B) (hb:B≠b1∧B≠b2∧B≠b3∧B≠b4) :
  Ext W ((wa.setCell ⟨B,0,none⟩ u0).setCell ⟨B,1,none⟩ u1)∧((wa.setCell ⟨B,0,none⟩ u0).setCell ⟨B,1,none⟩ u1).cell? ⟨b1,o1,none⟩=some v1∧((wa.setCell ⟨B,0,none⟩ u0).setCell ⟨B,1,none⟩ u1).cell? ⟨b2,o2,none⟩=some v2∧((wa.setCell ⟨B,0,none⟩ u0).setCell ⟨B,1,none⟩ u1).cell? ⟨b3,o3,none⟩=some v3∧((wa.setCell ⟨B,0,none⟩ u0).setCell ⟨B,1,none⟩ u1).cell? ⟨b4,o4,none⟩=some v4 :=
 ⟨Below.setCell (Below.setCell h.1 hB u0) hB u1,cell_set (cell_set h.2.1 hb.1) hb.1,cell_set (cell_set h.2.2.1 hb.2.1) hb.2.1,cell_set (cell_set h.2.2.2.1 hb.2.2.1) hb.2.2.1,cell_set (cell_set h.2.2.2.2 hb.2.2.2) hb.2.2.2⟩
theorem set2_read {wa:World} {B:Nat} (h:Free2 wa B) (u0 u1:Value) :
  ((wa.setCell ⟨B,0,none⟩ u0).setCell ⟨B,1,none⟩ u1).cell? ⟨B,0,none⟩=some u0∧((wa.setCell ⟨B,0,none⟩ u0).setCell ⟨B,1,none⟩ u1).cell? ⟨B,1,none⟩=some u1:=by
 obtain⟨⟨a,ha⟩,⟨b,hb⟩,_⟩:=h
 refine⟨?_,?_⟩ <;> go_simp
theorem ret2 {P:Program} {fn:Func} {R:Ending→World→Prop} {a:Act} {wa:World} {B:Nat} {u0 u1:Value} (h:Free2 wa B)
 (hr:(((wa.setCell ⟨B,0,none⟩ u0).setCell ⟨B,1,none⟩ u1).cell? ⟨B,0,none⟩=some u0∧((wa.setCell ⟨B,0,none⟩ u0).setCell ⟨B,1,none⟩ u1).cell? ⟨B,1,none⟩=some u1)→(results fn a.tmps).run P ((wa.setCell ⟨B,0,none⟩ u0).setCell ⟨B,1,none⟩ u1) = .ok (.agg #[u0,u1]) ((wa.setCell ⟨B,0,none⟩ u0).setCell ⟨B,1,none⟩ u1)) (hd:a.defers = [])
 (hR:R (.returned (.agg #[u0,u1])) ((wa.setCell ⟨B,0,none⟩ u0).setCell ⟨B,1,none⟩ u1)):bodyPost P fn R .ret a ((wa.setCell ⟨B,0,none⟩ u0).setCell ⟨B,1,none⟩ u1):=bodyPost_ret (hr (set2_read h u0 u1)) hd hR
theorem sub2 (wa:World) {B:Nat} (u0 u1:Value) {S:Nat→Prop} (hB : ¬S B):Sub (on wa S) (on ((wa.setCell ⟨B,0,none⟩ u0).setCell ⟨B,1,none⟩ u1) S):=(set_sub wa _ u0 hB).trans (set_sub _ _ u1 hB)
theorem slice_endC {α:Type} {R:Rep α} {w w2 w3:World} {B:Nat} {u0 u1 v:Value} {T:Nat→Prop} {xs:List α} (s2:SliceOf R (on w2 T) v xs) (hT : ∀k,k<w2.heap.size→T k→B<k) (hB:w.heap.size≤B) (hx:Ext w2 w3) :
  SliceOf R (on ((w3.setCell ⟨B,0,none⟩ u0).setCell ⟨B,1,none⟩ u1) (fun j=>w.heap.size≤j)) v xs :=
 s2.ext (((on_mono w2 (T:=fun k=>B<k) hT).trans (hx.sub _)).trans ((sub2 w3 u0 u1 (Nat.lt_irrefl B)).trans (on_mono _ fun k _ (hk:B<k)=>Nat.le_trans hB (Nat.le_of_lt hk))))
theorem old_all {w w':World} {v:Value} (hx:Ext w w') (hb : ∀k,v.ownBlock=some k→w.heap.size≤k):Sub w.cell? (on w' (avoid (fun _=>True) v)):=fun p u e =>
 on_some.2 ⟨⟨fun he=>by have h1:=hb _ he.symm;have h2:=World.block_lt_of_cell? w p e;omega,trivial⟩,hx.at e⟩
theorem flat_valC:Rep.val.flat:=fun _ _ _ _ h=>h
theorem info_valC:(Tryz.prog.info? 73).map (fun i=>(i.zero,i.size,i.bytes))=some (some (.agg #[.int .i64 0,.int .i64 0,.string ByteArray.empty]),Rep.val.size,32):=by kernel_rfl
set_option maxRecDepth 100000 in
set_option maxHeartbeats 4000000 in
theorem refConcat_any (va la vb lb:Value) (xv yv:List Val) (xl yl:List Int) (w:World) (ha:SliceOf Rep.val w.cell? va xv) (hb:SliceOf Rep.val w.cell? vb yv) (hla:SliceOf Rep.int w.cell? la xl) (hlb:SliceOf Rep.int w.cell? lb yl)
  (hf1:xv.length≤1048576) (hf2:yv.length≤1048576) (hf3:xl.length≤1048576) (hf4:yl.length≤1048576) :
  Calls Tryz.prog 125 #[.agg #[va,la],.agg #[vb,lb]] w fun e w'=> ∃v l,e = .returned (.agg #[v,l])∧SliceOf Rep.val (on w' (since w)) v (xv++yv)∧SliceOf Rep.int (on w' (since w)) l (mergeL xl yl)∧Ext w w':=by
 obtain⟨i0,hi,hz0,hz1,hz2⟩:=info_parts info_valC
 have HA:=Lib.hid ha
 have HB:=Lib.hid hb
 have HLA:=Lib.hid hla
 have HLB:=Lib.hid hlb
 obtain⟨pa,ca,rfl,_⟩:=ha.form
 obtain⟨pb,cb,rfl,_⟩:=hb.form
 obtain⟨qa,da,rfl,_⟩:=hla.form
 obtain⟨qb,db,rfl,_⟩:=hlb.form
 have B1:([]:List Val).length+xv.length≤maxLen:=by rw [List.length_nil];unfold maxLen;omega
 have B2:(([]:List Val).length+xv.length)*32≤140737488355328:=by rw [List.length_nil];omega
 have B3:xv.length+yv.length≤maxLen:=by unfold maxLen;omega
 have B4:(xv.length+yv.length)*32≤140737488355328:=by omega
 have HBB:=Lib.hid (And.intro (And.intro B1 B2) (And.intro B3 B4))
 obtain⟨n5,hn5⟩ : ∃n,n=(xv++yv).length:=⟨_,rfl⟩
 have HN5:=Lib.hid hn5
 clear hn5
 obtain⟨n1,hn1⟩ : ∃n,n=xv.length:=⟨_,rfl⟩
 obtain⟨n2,hn2⟩ : ∃n,n=yv.length:=⟨_,rfl⟩
 obtain⟨n3,hn3⟩ : ∃n,n=xl.length:=⟨_,rfl⟩
 obtain⟨n4,hn4⟩ : ∃n,n=yl.length:=⟨_,rfl⟩
 rw [←hn1]at HA ⊢
 rw [←hn2]at HB ⊢
 rw [←hn3]at HLA ⊢
 rw [←hn4]at HLB ⊢
 have HF:=Lib.hid (And.intro hf3 hf4)
 clear ha hb hla hlb hf1 hf2 hf3 hf4 hn1 hn2 hn3 hn4 B1 B2 B3 B4
 go_enter Tryz.func125,Tryz.ntmps125
 go_wp2_with fail
 obtain⟨W1,hW1⟩ : ∃W1,W1=((w.alloc (.cells #[.slice pa n1 ca,.slice qa n3 da] 70)).alloc (.cells #[.slice pb n2 cb,.slice qb n4 db] 70)).alloc (.cells #[.slice none 0 0,.slice none 0 0] 70):=⟨_,rfl⟩
 obtain⟨B,hB⟩ : ∃B,B=w.heap.size:=⟨_,rfl⟩
 have hxx:Ext w W1:=by rw [hW1];exact(((Ext.refl w).alloc _).alloc _).alloc _
 have hsz:W1.heap.size=B+3:=by rw [hW1,hB];simp
 have c1:W1.cell? ⟨B,0,none⟩=some (.slice pa n1 ca):=by rw [hW1,hB];go_simp
 have c2:W1.cell? ⟨B,1,none⟩=some (.slice qa n3 da):=by rw [hW1,hB];go_simp
 have c3:W1.cell? ⟨B+1,0,none⟩=some (.slice pb n2 cb):=by rw [hW1,hB];go_simp
 have c4:W1.cell? ⟨B+1,1,none⟩=some (.slice qb n4 db):=by rw [hW1,hB];go_simp
 have hF0:Free2 W1 (B+1+1):=by rw [hW1,hB];exact⟨⟨.slice none 0 0,by go_simp⟩,⟨.slice none 0 0,by go_simp⟩,by go_simp,by go_simp⟩
 rw [←hB,←hW1]
 have hF1:Free2 W1.drew (B+1+1):=Free2.ext hF0 (Ext.refl W1).drew
 have hS0:Ext w W1.drew∧W1.drew.cell? ⟨B,0,none⟩=some (.slice pa n1 ca)∧W1.drew.cell? ⟨B,1,none⟩=some (.slice qa n3 da)∧W1.drew.cell? ⟨B+1,0,none⟩=some (.slice pb n2 cb)∧W1.drew.cell? ⟨B+1,1,none⟩=some (.slice qb n4 db):=⟨hxx.drew,c1,c2,c3,c4⟩
 have HSZ:=Lib.hid (show W1.drew.heap.size=B+3 from hsz)
 have HBW:=Lib.hid (show w.heap.size≤B+1+1 from by omega)
 have HBE:=Lib.hid hB
 have hwB:=HBW.out
 have hne:B+1+1≠B∧B+1+1≠B∧B+1+1≠B+1∧B+1+1≠B+1:=by omega
 clear c1 c2 c3 c4 hF0 hW1 hsz hB hxx
 go_region_held3 (fun w'=>Ext w w'∧w'.cell? ⟨B,0,none⟩=some (.slice pa n1 ca)∧w'.cell? ⟨B,1,none⟩=some (.slice qa n3 da)∧w'.cell? ⟨B+1,0,none⟩=some (.slice pb n2 cb)∧w'.cell? ⟨B+1,1,none⟩=some (.slice qb n4 db))
  (first |with_reducible assumption | with_reducible exact keepE4 (by assumption) x3 | with_reducible exact keepS4 (by assumption) hwB hne)
  (first
   |(go_at_call 116;refine(ref_mergeLineage _ _ xl yl _ (by exact HLA.out.ext K10.1.full) (by exact HLB.out.ext K10.1.full) HF.out.1 HF.out.2).mono ?_;rintro e w3 ⟨v3,rfl,s3,x3⟩;have S3:=Lib.hid s3;obtain⟨p3,q3,rfl,_⟩:=s3.form;have X3:=Lib.hid x3;have hF3:=Free2.ext hF10 x3;have SZ3:=Lib.hid (Nat.le_trans SZ10.out (Nat.le_refl w10.heap.size));obtain⟨⟨m30,y30⟩,⟨m31,y31⟩,y32,y33⟩:=id hF3;have z3:=cell_lt y30;clear s3)
   |((with_reducible have q7:=O7.out);refine step_append_all Rep.val (fun _=>True) rfl _ _ 68 rfl (B+3) 73 i0 _ 32 Tryz.underlying68 hi hz0 hz1 hz2 rfl (by decide) v7 xv rfl O7.out (.slice pb n2 cb) yv rfl (HB.out.ext (old_all K7.1 (fun k hk=>by have h1:=O7.out.base k hk;have h2:=HBW.out;omega))) HBB.out.2.1 HBB.out.2.2 SZ7.out ?_;intro v10 w10 own10 gr10 at10;obtain⟨p10,q10,hv10,_⟩:=own10.slice.form;subst hv10;rw [←HN5.out]at own10 ⊢;have K10:=keepX4 K7 gr10 (fun k hk=>by have h1:=O7.out.base k hk;have h2:=HBW.out;omega) (fun k hk=>by have h1:=O7.out.base k hk;omega);have hF10:Free2 w10 (B+1+1):=Free2.grownC hF7 gr10 (fun k hk=>by have h1:=O7.out.base k hk;omega);have O10:=Lib.hid own10;have SZ10:=Lib.hid (Nat.le_trans SZ7.out gr10.size);clear q7 own10)
   |(refine step_append_all Rep.val (fun _=>True) rfl _ _ 68 rfl (B+3) 73 i0 _ 32 Tryz.underlying68 hi hz0 hz1 hz2 rfl (by decide) (.slice none 0 0) [] rfl (OwnOf.nil _ _ _ _ _) (.slice pa n1 ca) xv rfl (HA.out.ext (old_all hS0.1 (own_nil _))) HBB.out.1.1 HBB.out.1.2 (Nat.le_of_eq HSZ.out.symm) ?_;intro v7 w7 own7 gr7 at7;rw [List.nil_append]at own7;have K7:=keepX4 hS0 gr7 (own_nil _) (fun k hk=>by cases hk);have hF7:Free2 w7 (B+1+1):=Free2.grownC hF1 gr7 (fun k hk=>by cases hk);have O7:=Lib.hid own7;have SZ7:=Lib.hid (Nat.le_trans (Nat.le_of_eq HSZ.out.symm) gr7.size);clear own7)
   |fail)
 all_goals
  have hfin:=And.left ‹Ext w (_:World)∧_›
  clear hS0
  go_wp2_with fail
 all_goals
  with_reducible refine ret2 (by assumption) ?_ ?_ ?_
  ·intro j
   simp [results,Tryz.results125,go_sem,j]
  ·rfl
  refine⟨_,_,rfl,slice_endC (O10.out.fresh flat_valC) ?_ hwB X3.out,slice_endC S3.out ?_ hwB (Ext.refl _),hfin⟩
  ·intro k _ hk
   have h1:B+3≤k:=hk
   omega
  ·intro k _ hk
   have h1:w10.heap.size≤k:=hk
   have h2:=SZ10.out
   omega
end Go.Proofs.YtkddkbpoefidpaaGreatDoor
namespace Go.Proofs.YtkddkbpoefidpaaGreatDoor
open Go.RowKit
structure ExprI where
 op:Int
 a:Int
 b:Int
 col:Int
 c:Val
def exprEnc (x:ExprI):List Value:= [.int .i64 x.op,.int .i64 x.a,.int .i64 x.b,.int .i64 x.col,.int .i64 x.c.kind,.int .i64 x.c.n,.string x.c.s]
def Rep.expr:Rep ExprI where
 size:=7
 holds _ cs x:=cs=exprEnc x∧(okI x.op∧okI x.a∧okI x.b∧okI x.col)∧okVal x.c
 len:=by rintro w cs x ⟨rfl,_⟩;rfl
 ext:=by rintro w w' cs x h _;exact h
 one:=by rintro w cs x ⟨rfl,_⟩;simp [exprEnc,Value.oneCell']
def colAt (vals:List Val) (c:Int):Val:=if 0≤c∧c<vals.length then vals.getD c.toNat nV else nV
theorem colAt_in {vals:List Val} {c:Nat} (h:c<vals.length):colAt vals c=vals[c]:=by
 unfold colAt
 rw [if_pos (by omega)]
 simp [h]
theorem colAt_out {vals:List Val} {c:Int} (h : ¬(0≤c∧c<vals.length)):colAt vals c=nV:=if_neg h
set_option maxRecDepth 100000 in
set_option maxHeartbeats 4000000 in
theorem apply_col (x:ExprI) (hop:x.op=2) (pa:Option Addr) (na ka:Nat) (v:Value) (vals:List Val) (w:World) (hv:SliceOf Rep.val w.cell? v vals) :
  Calls Tryz.prog 156 #[.agg (exprEnc x).toArray,.slice pa na ka,v] w fun e w'=>e = .returned (valV (colAt vals x.col))∧Ext w w':=by
 obtain⟨p,cap,rfl,_,_,hp⟩:=hv.form
 obtain⟨op,a,b,col,⟨ck,cn,cs⟩⟩:=x
 dsimp only at hop
 subst hop
 unfold exprEnc
 dsimp only
 have HV:=Lib.hid hv
 have HP:=Lib.hid hp
 clear hv hp
 by_cases h0:col<0
 ·have hd:decide (col<0)=true:=by simp [h0]
  have HC:=Lib.hid (colAt_out (vals:=vals) (c:=col) (by omega))
  go_enter Tryz.func156,Tryz.ntmps156
  go_wp2_with fail
  refine bodyPost_ret (v:=valV (colAt vals col)) (by rw [HC.out];simp [results,Tryz.results156,go_sem,valV,nV];rfl) rfl ⟨rfl,?_⟩
  exact((Ext.refl w).alloc _).alloc _
 ·have hd:decide (col<0)=false:=by simp [h0]
  by_cases h1:col<vals.length
  ·obtain⟨c,hc⟩ : ∃c:Nat,col=c:=⟨col.toNat,by omega⟩
   subst hc
   have hcl:c<vals.length:=by omega
   have hd2:decide ((vals.length:Int)≤(c:Int))=false:=by simp;omega
   have hb1:(c:Int)<(vals.length:Int):=by omega
   obtain⟨bb,o,rfl⟩:=HP.out (by decide) (by omega)
   obtain⟨c0,c1,c2,_⟩:=val_cells HV.out c hcl
   have HC:=Lib.hid (colAt_in hcl)
   generalize vals[c]=y at c0 c1 c2 HC
   obtain⟨yk,yn,ys⟩:=y
   dsimp only at c0 c1 c2
   have e0:=cell_lt c0
   clear h0 h1
   go_enter Tryz.func156,Tryz.ntmps156
   go_wp2_with fail
   refine bodyPost_ret (v:=valV (colAt vals c)) (by rw [HC.out];simp [results,Tryz.results156,go_sem,valV]) rfl ⟨rfl,?_⟩
   exact((Ext.refl w).alloc _).alloc _
  ·have hd2:decide ((vals.length:Int)≤col)=true:=by simp;omega
   have hb1 : ¬col<(vals.length:Int):=h1
   have HC:=Lib.hid (colAt_out (vals:=vals) (c:=col) (by omega))
   clear h0 h1
   go_enter Tryz.func156,Tryz.ntmps156
   go_wp2_with fail
   refine bodyPost_ret (v:=valV (colAt vals col)) (by rw [HC.out];simp [results,Tryz.results156,go_sem,valV,nV];rfl) rfl ⟨rfl,?_⟩
   exact((Ext.refl w).alloc _).alloc _
def FreeN (w:World) (g n:Nat):Prop:= ∀j,j<n→(∃u,w.cell? ⟨g,j,none⟩=some u)∧w.frozen? ⟨g,j,none⟩=false
theorem FreeN.set {w:World} {g n:Nat} (h:FreeN w g n) (i:Nat) (u:Value):FreeN (w.setCell ⟨g,i,none⟩ u) g n:=fun j hj=>by
 obtain⟨⟨z,h1⟩,h2⟩:=h j hj
 by_cases e:j=i
 ·subst e
  exact⟨⟨u,by go_simp⟩,by go_simp⟩
 ·exact⟨⟨z,by rw [World.cell?_setCell_other _ _ _ _ (by simp only [ne_eq,Addr.mk.injEq,true_and,and_true];omega)];exact h1⟩,by go_simp⟩
theorem FreeN.ext {w w':World} {g n:Nat} (h:FreeN w g n) (hx:Ext w w'):FreeN w' g n:=fun j hj=>by
 obtain⟨⟨z,h1⟩,h2⟩:=h j hj
 exact⟨⟨z,hx.at h1⟩,hx.unfrozen h1 h2⟩
theorem FreeN.made {w:World} {base g n c k:Nat} {e:TypeId} {xs:List Value} (h:w.ownsRow base e k (.slice (some ⟨g,0,none⟩) n c) n xs):FreeN w g (c*k):=fun j hj=>by
 rcases h.2 with ⟨h1,_⟩ | ⟨g',cap,cur,he,_,hg,_,_,hsz,_⟩
 ·cases h1
 ·injection he with e1 e2 e3
  injection e1 with e1
  injection e1 with e1
  subst e1 e3
  refine⟨⟨cur[j]'(by omega),?_⟩,Lib.frozen_of_heap hg j⟩
  rw [Lib.cell_of_heap hg]
  exact Array.getElem?_eq_getElem _
theorem info_val3:(Tryz.prog.info? 73).map (fun i=>(i.zero,i.size,i.bytes))=some (some (.agg #[.int .i64 0,.int .i64 0,.string ByteArray.empty]),3,32):=by kernel_rfl
theorem expr_at {h:View} {b o n cap:Nat} {xs:List ExprI} (k:SliceOf Rep.expr h (.slice (some ⟨b,o,none⟩) n cap) xs) (i:Nat) (hi:i<xs.length) :
  h ⟨b,o+i*7,none⟩=some (.int .i64 xs[i].op)∧h ⟨b,o+i*7+1,none⟩=some (.int .i64 xs[i].a)∧h ⟨b,o+i*7+2,none⟩=some (.int .i64 xs[i].b)∧h ⟨b,o+i*7+3,none⟩=some (.int .i64 xs[i].col)∧h ⟨b,o+i*7+4,none⟩=some (.int .i64 xs[i].c.kind)∧h ⟨b,o+i*7+5,none⟩=some (.int .i64 xs[i].c.n)∧h ⟨b,o+i*7+6,none⟩=some (.string xs[i].c.s):=by
 obtain⟨c,⟨rfl,_⟩,h2⟩:=k.at i hi
 exact⟨h2 0 _ rfl,h2 1 _ rfl,h2 2 _ rfl,h2 3 _ rfl,h2 4 _ rfl,h2 5 _ rfl,h2 6 _ rfl⟩
end Go.Proofs.YtkddkbpoefidpaaGreatDoor
namespace Go.Proofs.YtkddkbpoefidpaaGreatDoor
open Go.RowKit
def projC (es:List ExprI) (keys:List Int) (vals:List Val):List Val:=keys.map fun k=>colAt vals ((es.map ExprI.col).getD k.toNat 0)
theorem ok_colAt {vals:List Val} (h : ∀x∈vals,okVal x) (c:Int):okVal (colAt vals c):=by
 unfold colAt
 split
 ·rename_i hc
  have hlt:c.toNat<vals.length:=by omega
  rw [List.getD_eq_getElem?_getD,List.getElem?_eq_getElem hlt]
  exact h _ (List.getElem_mem hlt)
 ·exact ok_nV
theorem vals_ok {h:View} {v:Value} {vs:List Val} (k:SliceOf Rep.val h v vs) : ∀x∈vs,okVal x:=by
 intro x hx
 obtain⟨i,hi,rfl⟩:=List.getElem_of_mem hx
 obtain⟨p,cap,rfl,_,_,hp⟩:=k.form
 obtain⟨b,o,rfl⟩:=hp (by decide) (by omega)
 obtain⟨c,⟨_,h3⟩,_⟩:=k.at i hi
 exact h3
end Go.Proofs.YtkddkbpoefidpaaGreatDoor
namespace Go.Proofs.YtkddkbpoefidpaaGreatDoor
open Go.RowKit
instance:Inhabited ExprI:=⟨⟨0,0,0,0,nV⟩⟩
instance:Inhabited Val:=⟨nV⟩
def arityE (op:Int):Int:=if op=1∨op=2 then 0 else if op=10∨op=11 then 1 else if 3≤op∧op≤9 then 2 else -1
theorem arityE_le (op:Int) : -1≤arityE op∧arityE op≤2:=by
 unfold arityE
 split
 ·omega
 split
 ·omega
 split <;> omega
def opsE (x:ExprI):List Int:= [x.a,x.b].take (arityE x.op).toNat
theorem opsE_len (x:ExprI):(opsE x).length=(arityE x.op).toNat:=by
 have:=arityE_le x.op
 unfold opsE
 rw [List.length_take]
 simp only [List.length_cons,List.length_nil]
 omega
def boolV (b:Bool):Val:=⟨3,if b=true then 1 else 0,ByteArray.empty⟩
def trueV (v:Val):Bool:=decide (v.kind=3)&&decide (v.n=1)
def arithI (op a b:Int):Int:=if op=3 then a+b else if op=4 then a - b else a*b
def fit64 (z:Int):Prop:= -9223372036854775808≤z∧z≤9223372036854775807
instance (z:Int):Decidable (fit64 z):=by unfold fit64;infer_instance
def arithV (op:Int) (a b:Val):Val:=if a.kind=1∧b.kind=1∧fit64 (arithI op a.n b.n)then intVal (arithI op a.n b.n)else nV
def eqV (a b:Val):Bool:=decide (a.kind≠0)&&decide (b.kind≠0)&&decide (cmpVal a b=0)
def lessV (a b:Val):Bool:=decide (a.kind≠0)&&decide (a.kind=b.kind)&&decide (cmpVal a b<0)
def applyV (x:ExprI) (a b:Val) (row:List Val):Val :=
 if x.op=1 then x.c
 else if x.op=2 then colAt row x.col
 else if 3≤x.op∧x.op≤5 then arithV x.op a b
 else if x.op=6 then boolV (eqV a b)
 else if x.op=7 then boolV (lessV a b)
 else if x.op=8 then boolV (trueV a&&trueV b)
 else if x.op=9 then boolV (trueV a||trueV b)
 else if x.op=10 then boolV (!trueV a)
 else if x.op=11 then boolV (decide (a.kind=0))
 else nV
def legalE (i:Nat) (x:ExprI):Bool:=(opsE x).all fun o=>decide (0≤o)&&decide (o<i)
def argE (done:List Val) (o:Int):Val:=done.getD o.toNat nV
def argsE (x:ExprI) (done:List Val):List Val:=(opsE x).map (argE done)
def stepE (row done:List Val) (x:ExprI):Val:=if legalE done.length x=true then applyV x ((argsE x done).getD 0 nV) ((argsE x done).getD 1 nV) row else nV
def evalAll (es:List ExprI) (row:List Val):Nat→List Val
 |0=> []
 |k+1=>evalAll es row k ++ [stepE row (evalAll es row k) es[k]!]
def evalE (es:List ExprI) (root:Int) (row:List Val):Val:=if 0≤root∧root<es.length then(evalAll es row (root.toNat+1)).getD root.toNat nV else nV
theorem evalAll_len (es:List ExprI) (row:List Val) (k:Nat):(evalAll es row k).length=k:=by
 induction k with
 |zero=>rfl
 |succ k ih=>rw [evalAll,List.length_append,ih];rfl
theorem evalAll_get (es:List ExprI) (row:List Val) (k j:Nat) (h:j<k):(evalAll es row k).getD j nV=stepE row (evalAll es row j) es[j]! := by
 induction k with
 |zero=>omega
 |succ k ih =>
  rw [evalAll,List.getD_eq_getElem?_getD]
  by_cases c:j<k
  ·rw [List.getElem?_append_left (by rw [evalAll_len];exact c),←List.getD_eq_getElem?_getD,ih c]
  ·have e:j=k:=by omega
   subst e
   rw [List.getElem?_append_right (by rw [evalAll_len];exact Nat.le_refl _),evalAll_len,Nat.sub_self]
   rfl
theorem ok_intVal {z:Int} (h:fit64 z):okVal (intVal z):=⟨by simp [intVal],h,by simp [intVal,maxLen]⟩
theorem ok_boolV (b:Bool):okVal (boolV b):=⟨by simp [boolV],by cases b <;> simp [boolV],by simp [boolV,maxLen]⟩
theorem ok_arithV (op:Int) (a b:Val):okVal (arithV op a b):=by
 unfold arithV
 split
 ·rename_i h;exact ok_intVal h.2.2
 ·exact ok_nV
theorem ok_applyV {x:ExprI} {row:List Val} (hc:okVal x.c) (hr : ∀v∈row,okVal v) (a b:Val):okVal (applyV x a b row):=by
 unfold applyV
 split
 ·exact hc
 split
 ·exact ok_colAt hr _
 split
 ·exact ok_arithV _ _ _
 iterate 6 (split;· exact ok_boolV _)
 exact ok_nV
theorem ok_evalAll {es:List ExprI} {row:List Val} (he : ∀x∈es,okVal x.c) (hr : ∀v∈row,okVal v) : ∀(k:Nat),k≤es.length→ ∀v∈evalAll es row k,okVal v:=by
 intro k
 induction k with
 |zero=>intro _ v hv;cases hv
 |succ k ih =>
  intro hk v hv
  rw [evalAll]at hv
  rcases List.mem_append.1 hv with hv | hv
  ·exact ih (by omega) v hv
  ·rw [List.mem_singleton]at hv
   subst hv
   unfold stepE
   split
   ·exact ok_applyV (he _ (by rw [getElem!_pos es k (by omega)];exact List.getElem_mem _)) hr _ _
   ·exact ok_nV
theorem ok_getD {l:List Val} (h : ∀v∈l,okVal v) (j:Nat):okVal (l.getD j nV):=by
 rw [List.getD_eq_getElem?_getD]
 by_cases c:j<l.length
 ·rw [List.getElem?_eq_getElem c];exact h _ (List.getElem_mem c)
 ·rw [List.getElem?_eq_none (by omega)];exact ok_nV
def fitV (v:Val):Prop:=v.s.size≤1048576
theorem opsE_1 {x:ExprI} (h:arityE x.op=1):opsE x = [x.a]:=by
 unfold opsE
 rw [h]
 rfl
theorem opsE_2 {x:ExprI} (h:arityE x.op=2):opsE x = [x.a,x.b]:=by
 unfold opsE
 rw [h]
 rfl
end Go.Proofs.YtkddkbpoefidpaaGreatDoor
namespace Go.Proofs.YtkddkbpoefidpaaGreatDoor
open Go.RowKit
set_option maxHeartbeats 1000000 in
theorem arity_any (op:Int) (w:World):Calls Tryz.prog 216 #[.int .i64 op] w fun e w'=>e = .returned (.int .i64 (arityE op))∧w=w':=by
 by_cases h:1≤op∧op≤11
 ·have h2:op=1∨op=2∨op=3∨op=4∨op=5∨op=6∨op=7∨op=8∨op=9∨op=10∨op=11:=by omega
  clear h
  rcases h2 with rfl | rfl | rfl | rfl | rfl | rfl | rfl | rfl | rfl | rfl | rfl
  all_goals
   go_enter Tryz.func216,Tryz.ntmps216
   go_wp2_with fail
   go_ret
   exact⟨rfl,rfl⟩
 ·have b1:(op==1)=false:=by simp;omega
  have b2:(op==2)=false:=by simp;omega
  have b3:(op==3)=false:=by simp;omega
  have b4:(op==4)=false:=by simp;omega
  have b5:(op==5)=false:=by simp;omega
  have b6:(op==6)=false:=by simp;omega
  have b7:(op==7)=false:=by simp;omega
  have b8:(op==8)=false:=by simp;omega
  have b9:(op==9)=false:=by simp;omega
  have b10:(op==10)=false:=by simp;omega
  have b11:(op==11)=false:=by simp;omega
  have ha:arityE op = -1:=by
   unfold arityE
   rw [if_neg (by omega),if_neg (by omega),if_neg (by omega)]
  rw [ha]
  clear h ha
  go_enter Tryz.func216,Tryz.ntmps216
  go_wp2_with fail
  go_ret
  exact⟨rfl,rfl⟩
set_option maxHeartbeats 1000000 in
theorem legal_any (i o:Int) (w:World):Calls Tryz.prog 155 #[.int .i64 i,.int .i64 o] w fun e w'=>e = .returned (.bool (decide (0≤o)&&decide (o<i)))∧w=w':=by
 by_cases h0:0≤o
 ·have d0:decide (0≤o)=true:=decide_eq_true h0
  rw [d0,Bool.true_and]
  go_enter Tryz.func155,Tryz.ntmps155
  go_wp2_with fail
  go_ret
  exact⟨rfl,rfl⟩
 ·have d0:decide (0≤o)=false:=decide_eq_false h0
  rw [d0,Bool.false_and]
  clear h0
  go_enter Tryz.func155,Tryz.ntmps155
  go_wp2_with fail
  go_ret
  exact⟨rfl,rfl⟩
set_option maxHeartbeats 1000000 in
theorem boolean_any (b:Bool) (w:World):Calls Tryz.prog 218 #[.bool b] w fun e w'=>e = .returned (valV (boolV b))∧Ext w w':=by
 cases b
 ·go_enter Tryz.func218,Tryz.ntmps218
  go_wp2_with fail
  exact bodyPost_ret (v:=valV (boolV false)) (by simp [results,Tryz.results218,go_sem,valV,boolV];rfl) rfl ⟨rfl,(Ext.refl w).alloc _⟩
 ·go_enter Tryz.func218,Tryz.ntmps218
  go_wp2_with fail
  exact bodyPost_ret (v:=valV (boolV true)) (by simp [results,Tryz.results218,go_sem,valV,boolV];rfl) rfl ⟨rfl,(Ext.refl w).alloc _⟩
set_option maxHeartbeats 1000000 in
theorem isTrue_any (v:Val) (w:World):Calls Tryz.prog 219 #[valV v] w fun e w'=>e = .returned (.bool (trueV v))∧Ext w w':=by
 obtain⟨k,n,s⟩:=v
 unfold trueV valV
 dsimp only
 by_cases h:k=3
 ·subst h
  have d:decide ((3:Int)=3)=true:=rfl
  have e:(n==1)=decide (n=1):=by rw [Bool.eq_iff_iff];simp
  have HE:=Lib.hid e
  rw [d,Bool.true_and]
  clear d e
  go_enter Tryz.func219,Tryz.ntmps219
  go_wp2_with fail
  go_ret
  exact⟨ret_bool HE.out,(Ext.refl w).alloc _⟩
 ·have b:(k==3)=false:=by simp [h]
  have d:decide (k=3)=false:=decide_eq_false h
  rw [d,Bool.false_and]
  clear d h
  go_enter Tryz.func219,Tryz.ntmps219
  go_wp2_with fail
  go_ret
  exact⟨rfl,(Ext.refl w).alloc _⟩
theorem mag_neg {a:Int} (h:a<0) (h0 : -9223372036854775808≤a):IntKind.u64.wrap (-IntKind.u64.wrap a)=(a.natAbs:Int):=by
 rw [IntKind.wrap_u64,IntKind.wrap_u64];omega
theorem mag_pos {a:Int} (h:0≤a) (h1:a≤9223372036854775807):IntKind.u64.wrap a=(a.natAbs:Int):=by
 rw [IntKind.wrap_u64];omega
set_option maxHeartbeats 1000000 in
theorem magnitude_any (a:Int) (ha:fit64 a) (w:World):Calls Tryz.prog 315 #[.int .i64 a] w fun e w'=>e = .returned (.int .u64 (a.natAbs:Int))∧w=w':=by
 unfold fit64 at ha
 by_cases h:a<0
 ·have HM:=Lib.hid (mag_neg h ha.1)
  have d:decide (a<0)=true:=decide_eq_true h
  clear h ha
  go_enter Tryz.func315,Tryz.ntmps315
  go_wp2_with fail
  go_ret
  exact⟨ret_int HM.out,rfl⟩
 ·have HM:=Lib.hid (mag_pos (by omega) ha.2)
  have d:decide (a<0)=false:=decide_eq_false h
  clear h ha
  go_enter Tryz.func315,Tryz.ntmps315
  go_wp2_with fail
  go_ret
  exact⟨ret_int HM.out,rfl⟩
theorem mul_same {a b:Int} (h:decide (a<0)=decide (b<0)):a*b=((a.natAbs*b.natAbs:Nat):Int):=by
 rw [Int.natCast_mul]
 by_cases h1:a<0
 ·have h2:b<0:=by simpa [h1] using h
  rw [show (a.natAbs:Int) = -a by omega,show (b.natAbs:Int) = -b by omega,Int.neg_mul_neg]
 ·have h2 : ¬b<0:=by simpa [h1] using h
  rw [show (a.natAbs:Int)=a by omega,show (b.natAbs:Int)=b by omega]
theorem mul_other {a b:Int} (h:decide (a<0)≠decide (b<0)):a*b = -((a.natAbs*b.natAbs:Nat):Int):=by
 rw [Int.natCast_mul]
 by_cases h1:a<0
 ·have h2 : ¬b<0:=by simpa [h1] using h
  rw [show (a.natAbs:Int) = -a by omega,show (b.natAbs:Int)=b by omega,Int.neg_mul,Int.neg_neg]
 ·have h2:b<0:=by simpa [h1] using h
  rw [show (a.natAbs:Int)=a by omega,show (b.natAbs:Int) = -b by omega,Int.mul_neg,Int.neg_neg]
def MulRes (z:Int) (e:Ending):Prop:= ∃n,e = .returned (.tuple #[.int .i64 n,.bool (decide (fit64 z))])∧(fit64 z→n=z)
theorem mulRes_mk {z n:Int} {b:Bool} {e:Ending} (he:e = .returned (.tuple #[.int .i64 n,.bool b])) (hb:b=true↔fit64 z) (hn:fit64 z→n=z):MulRes z e:=by
 refine⟨n,?_,hn⟩
 rw [he]
 have:b=decide (fit64 z):=by rw [Bool.eq_iff_iff,hb,decide_eq_true_eq]
 rw [this]
end Go.Proofs.YtkddkbpoefidpaaGreatDoor
namespace Go.Proofs.YtkddkbpoefidpaaGreatDoor
open Go.RowKit
theorem mul_fit_same {a b:Int} {hi lo:Nat} (h:decide (a<0)=decide (b<0)) (hp:a.natAbs*b.natAbs=hi*18446744073709551616+lo) (hl:lo<18446744073709551616) :
  (fit64 (a*b)↔hi=0∧lo≤9223372036854775807)∧(fit64 (a*b)→IntKind.i64.wrap (lo:Int)=a*b):=by
 rw [mul_same h,hp]
 unfold fit64
 refine⟨by omega,fun g=> ?_⟩
 rw [IntKind.wrap_i64]
 omega
theorem mul_fit_other {a b:Int} {hi lo:Nat} (h:decide (a<0)≠decide (b<0)) (hp:a.natAbs*b.natAbs=hi*18446744073709551616+lo) (hl:lo<18446744073709551616) :
  (fit64 (a*b)↔hi=0∧lo≤9223372036854775808)∧(fit64 (a*b)→IntKind.i64.wrap (-IntKind.i64.wrap (lo:Int))=a*b):=by
 rw [mul_other h,hp]
 unfold fit64
 refine⟨by omega,fun g=> ?_⟩
 rw [IntKind.wrap_i64,IntKind.wrap_i64]
 omega
theorem fin_same {a b:Int} {hi lo:Nat} {t:Bool} (h:decide (a<0)=decide (b<0)) (hp:a.natAbs*b.natAbs=hi*18446744073709551616+lo) (hl:lo<18446744073709551616) (ht:t=true↔hi=0∧lo≤9223372036854775807) :
 MulRes (a*b) (.returned (.tuple #[.int .i64 (wrap64 (lo:Int)),.bool t])):=mulRes_mk rfl (ht.trans (mul_fit_same h hp hl).1.symm) fun g=>by have h2:=(mul_fit_same h hp hl).2 g;rw [IntKind.wrap_i64]at h2;unfold wrap64;exact h2
theorem fin_other {a b:Int} {hi lo:Nat} {t:Bool} (h:decide (a<0)≠decide (b<0)) (hp:a.natAbs*b.natAbs=hi*18446744073709551616+lo) (hl:lo<18446744073709551616) (ht:t=true↔hi=0∧lo≤9223372036854775808) :
 MulRes (a*b) (.returned (.tuple #[.int .i64 (wrap64 (-wrap64 (lo:Int))),.bool t])):=mulRes_mk rfl (ht.trans (mul_fit_other h hp hl).1.symm) fun g=>by have h2:=(mul_fit_other h hp hl).2 g;rw [IntKind.wrap_i64,IntKind.wrap_i64]at h2;unfold wrap64;exact h2
theorem iff_yes {p:Prop} (h:p):(true=true)↔p:=⟨fun _=>h,fun _=>rfl⟩
theorem iff_no {p:Prop} (h : ¬p):(false=true)↔p:=⟨fun g=>(by cases g),fun g=>absurd g h⟩
set_option maxRecDepth 100000 in
set_option maxHeartbeats 4000000 in
theorem multiply_any (a b:Int) (ha:fit64 a) (hb:fit64 b) (w:World):Calls Tryz.prog 270 #[.int .i64 a,.int .i64 b] w fun e w'=>MulRes (a*b) e∧w=w':=by
 have HA:=Lib.hid ha
 have HB:=Lib.hid hb
 have hna:a.natAbs<18446744073709551616:=by unfold fit64 at ha;omega
 have hnb:b.natAbs<18446744073709551616:=by unfold fit64 at hb;omega
 have HN:=Lib.hid (And.intro hna hnb)
 obtain⟨hi,hhi⟩ : ∃x,a.natAbs*b.natAbs / 18446744073709551616=x:=⟨_,rfl⟩
 obtain⟨lo,hlo⟩ : ∃x,a.natAbs*b.natAbs % 18446744073709551616=x:=⟨_,rfl⟩
 have hp:a.natAbs*b.natAbs=hi*18446744073709551616+lo:=by omega
 have hl:lo<18446744073709551616:=by omega
 have HHI:=Lib.hid (And.intro hhi hlo)
 have HP:=Lib.hid hp
 have HL:=Lib.hid hl
 obtain⟨P,hP⟩ : ∃P,P=fit64 (a*b):=⟨_,rfl⟩
 clear ha hb hna hnb hhi hlo hp hP
 by_cases h1:a<0
 all_goals by_cases h2:b<0
 all_goals by_cases h3:hi=0
 all_goals by_cases h4:lo≤9223372036854775807
 all_goals by_cases h5:lo≤9223372036854775808
 all_goals
  first |(exfalso;omega) | skip
 all_goals
  have d1:decide (a<0)=decide (a<0):=rfl
  first
   |(replace d1:decide (a<0)=true:=decide_eq_true h1)
   |(replace d1:decide (a<0)=false:=decide_eq_false h1)
  have d2:decide (b<0)=decide (b<0):=rfl
  first
   |(replace d2:decide (b<0)=true:=decide_eq_true h2)
   |(replace d2:decide (b<0)=false:=decide_eq_false h2)
  have d3:((hi:Int)==0)=((hi:Int)==0):=rfl
  first
   |(replace d3:((hi:Int)==0)=true:=by simp;omega)
   |(replace d3:((hi:Int)==0)=false:=by simp;omega)
  have d4:decide ((lo:Int)≤9223372036854775807)=decide ((lo:Int)≤9223372036854775807):=rfl
  first
   |(replace d4:decide ((lo:Int)≤9223372036854775807)=true:=by simp;omega)
   |(replace d4:decide ((lo:Int)≤9223372036854775807)=false:=by simp;omega)
  have d5:decide ((lo:Int)≤9223372036854775808)=decide ((lo:Int)≤9223372036854775808):=rfl
  first
   |(replace d5:decide ((lo:Int)≤9223372036854775808)=true:=by simp;omega)
   |(replace d5:decide ((lo:Int)≤9223372036854775808)=false:=by simp;omega)
  have H:=Lib.hid (And.intro h1 (And.intro h2 (And.intro h3 (And.intro h4 h5))))
  clear h1 h2 h3 h4 h5
  go_enter Tryz.func270,Tryz.ntmps270
  go_wp2_with fail
  refine(magnitude_any a HA.out _).mono ?_
  rintro e w1 ⟨rfl,rfl⟩
  go_wp2_with fail
  refine(magnitude_any b HB.out _).mono ?_
  rintro e w1 ⟨rfl,rfl⟩
  go_wp2_with fail
  refine(Tryz.bits_Mul64 a.natAbs b.natAbs HN.out.1 HN.out.2 _).mono ?_
  rintro e w1 ⟨rfl,rfl⟩
  rw [HHI.out.1,HHI.out.2]
  go_wp2_with fail
  go_ret2
  obtain⟨h1,h2,h3,h4,h5⟩:=H.out
  first
   |exact⟨fin_same (d1.trans d2.symm) HP.out HL.out (iff_yes ⟨h3,h4⟩),rfl⟩
   |exact⟨fin_same (d1.trans d2.symm) HP.out HL.out (iff_no (fun g=>h3 g.1)),rfl⟩
   |exact⟨fin_same (d1.trans d2.symm) HP.out HL.out (iff_no (fun g=>h4 g.2)),rfl⟩
   |exact⟨fin_other (by rw [d1,d2];decide) HP.out HL.out (iff_yes ⟨h3,h5⟩),rfl⟩
   |exact⟨fin_other (by rw [d1,d2];decide) HP.out HL.out (iff_no (fun g=>h3 g.1)),rfl⟩
   |exact⟨fin_other (by rw [d1,d2];decide) HP.out HL.out (iff_no (fun g=>h5 g.2)),rfl⟩
end Go.Proofs.YtkddkbpoefidpaaGreatDoor
