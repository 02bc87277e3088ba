/- joined texts of a proof: AlgO, EvaG, DbW, AwkP9, RunP -/
import Derived.Test.YtombmdaohcjokaaGreatDoorKX18
import Derived.Test.YtombmdaohcjokaaGreatDoorKX11
import Derived.Test.YtombmdaohcjokaaGreatDoorKX16
import Derived.Test.YtombmdaohcjokaaGreatDoorKX07
import Derived.Test.YtombmdaohcjokaaGreatDoorKX10
namespace Go.Proofs.YtombmdaohcjokaaGreatDoor
open Go.RowKit
theorem info_intss:(Tryz.prog.info? 29).map (fun i=>(i.zero,i.size,i.bytes))=some (some (.slice none 0 0),(Rep.slice Rep.int).size,24):=by kernel_rfl
theorem old_view {w w':World} (hx:Ext w w') {C:Nat} {vc:Value} (hC:w.heap.size≤C) (hv : ∀k,vc.ownBlock=some k→w.heap.size≤k):Sub w.cell? (on w' (avoid (fun b=>b≠C) vc)):=fun p u e=>by
 have hl:=World.block_lt_of_cell? w p e
 exact on_some.2 ⟨⟨fun h=>by have:=hv _ h.symm;omega,fun h=>by omega⟩,hx.at e⟩
theorem colsUpto_len (q:QueryI) (types:List TypI) (i:Nat) (h:(colsUpto q types i).2=0):(colsUpto q types i).1.length=i:=by
 induction i with
 |zero=>rfl
 |succ i ih =>
  unfold colsUpto at h ⊢
  repeat' split
  all_goals simp_all
theorem colsUpto_err (q:QueryI) (types:List TypI) {i n:Nat} (h:i≤n) {e:Int} (he:e≠0) (hi:colsUpto q types i=([],e)):colsUpto q types n=([],e):=by
 induction n with
 |zero =>
  obtain rfl:i=0:=by omega
  exact hi
 |succ n ih =>
  by_cases c:i=n+1
  ·rw [←c];exact hi
  ·have h2:=ih (by omega)
   unfold colsUpto
   rw [h2,if_pos he]
set_option maxRecDepth 100000 in
set_option maxHeartbeats 8000000 in
theorem columns_any (q:QueryI) (types:List TypI) (vn ve vt:Value) (w:World) (hn:SliceOf Rep.node w.cell? vn q.nodes) (he:SliceOf Rep.expr w.cell? ve q.exprs) (ht:SliceOf Rep.typ w.cell? vt types) (htl:types.length≤1048576) (hb : ∀x∈q.nodes,x.exprs.length≤1048576∧x.aggs.length≤1048576) :
  Calls Tryz.prog 50 #[.agg #[vn,ve],vt] w fun e w'=> ∃v,e = .returned (.tuple #[v,.int .i64 (columnsQ q types).2])∧SliceOf (Rep.slice Rep.int) w'.cell? v (columnsQ q types).1∧Ext w w':=by
 obtain⟨i4,hi4,hz40,hz41,hz42⟩:=info_parts info_intss
 have HNN:=Lib.hid hn
 have HEE:=Lib.hid he
 have HTT:=Lib.hid ht
 have HTL:=Lib.hid htl
 have HBB:=Lib.hid hb
 obtain⟨pn,cn,rfl,_,_,hpn⟩:=hn.form
 obtain⟨pe,ce,rfl,_⟩:=he.form
 obtain⟨pt,ct,rfl,_⟩:=ht.form
 obtain⟨N,hN⟩ : ∃z,z=q.nodes.length:=⟨_,rfl⟩
 obtain⟨M,hM⟩ : ∃z,z=q.exprs.length:=⟨_,rfl⟩
 obtain⟨T,hT⟩ : ∃z,z=types.length:=⟨_,rfl⟩
 rw [←hN]at hpn HNN
 rw [←hM]at HEE
 rw [←hT]at HTT
 rw [←hN,←hM,←hT]
 have HN:=Lib.hid hN
 have HM:=Lib.hid hM
 have HT:=Lib.hid hT
 have HPN:=Lib.hid hpn
 clear hn he ht hpn htl hb hN hM hT
 by_cases h0:N=0
 ·have b0:((N:Int)==0)=true:=by simp [h0]
  have HR:=Lib.hid (show columnsQ q types=([],4)from if_pos (.inl (by rw [←HN.out];exact h0)))
  clear h0
  go_enter Tryz.func50,Tryz.ntmps50
  go_wp2_with fail
  exact bodyPost_ret (v:= .tuple #[.slice none 0 0,.int .i64 4]) (by simp [results,Tryz.results50,go_sem]) rfl ⟨_,by rw [HR.out],by rw [HR.out];exact SliceOf.nil _ _,(Ext.refl w).alloc _⟩
 ·have b0:((N:Int)==0)=false:=by simp [h0]
  by_cases h1:40<N
  ·have b1:decide ((40:Int)<(N:Int))=true:=by simp;omega
   have HR:=Lib.hid (show columnsQ q types=([],4)from if_pos (.inr (.inl (by rw [←HN.out];exact h1))))
   clear h0 h1
   go_enter Tryz.func50,Tryz.ntmps50
   go_wp2_with fail
   exact bodyPost_ret (v:= .tuple #[.slice none 0 0,.int .i64 4]) (by simp [results,Tryz.results50,go_sem]) rfl ⟨_,by rw [HR.out],by rw [HR.out];exact SliceOf.nil _ _,(Ext.refl w).alloc _⟩
  ·have b1:decide ((40:Int)<(N:Int))=false:=by simp;omega
   by_cases h2:200<M
   ·have b2:decide ((200:Int)<(M:Int))=true:=by simp;omega
    have HR:=Lib.hid (show columnsQ q types=([],4)from if_pos (.inr (.inr (by rw [←HM.out];exact h2))))
    clear h0 h1 h2
    go_enter Tryz.func50,Tryz.ntmps50
    go_wp2_with fail
    exact bodyPost_ret (v:= .tuple #[.slice none 0 0,.int .i64 4]) (by simp [results,Tryz.results50,go_sem]) rfl ⟨_,by rw [HR.out],by rw [HR.out];exact SliceOf.nil _ _,(Ext.refl w).alloc _⟩
   ·have b2:decide ((200:Int)<(M:Int))=false:=by simp;omega
    have HQ:=Lib.hid (show columnsQ q types=colsUpto q types N from by unfold columnsQ;rw [if_neg (by have:=HN.out;have:=HM.out;omega),←HN.out])
    have hN40:N≤40:=by omega
    clear h0 h1 h2
    go_enter Tryz.func50,Tryz.ntmps50
    go_wp2_with fail
    obtain⟨C,hC⟩ : ∃z,z=w.heap.size+1:=⟨_,rfl⟩
    obtain⟨W1,hW1⟩ : ∃z,z=(w.alloc (.cells #[.slice pn N cn,.slice pe M ce] 25)).alloc (.cells #[.slice pn N cn,.slice pe M ce,.slice pt T ct,.slice none 0 0] 154):=⟨_,rfl⟩
    have HX1:=Lib.hid (show Ext w W1 from by rw [hW1];exact((Ext.refl w).alloc _).alloc _)
    have HSZ:=Lib.hid (show W1.heap.size=C+1 from by rw [hW1,hC];go_simp)
    have HCW:=Lib.hid (show w.heap.size≤C from by omega)
    have q0:W1.cell? ⟨w.heap.size,0,none⟩=some (.slice pn N cn):=by rw [hW1];go_simp
    have k0:W1.cell? ⟨C,0,none⟩=some (.slice pn N cn):=by rw [hW1,hC];go_simp
    have k1:W1.cell? ⟨C,1,none⟩=some (.slice pe M ce):=by rw [hW1,hC];go_simp
    have k2:W1.cell? ⟨C,2,none⟩=some (.slice pt T ct):=by rw [hW1,hC];go_simp
    have k3:W1.cell? ⟨C,3,none⟩=some (.slice none 0 0):=by rw [hW1,hC];go_simp
    have k4:W1.frozen? ⟨C,3,none⟩=false:=by rw [hW1,hC];go_simp
    rw [←hC,←hW1]
    have HMK:=Lib.hid (show ∀(wr:World) (vc:Value) (done:List (List Int)),Ext w wr→wr.cell? ⟨C,0,none⟩=some (.slice pn N cn)→wr.cell? ⟨C,1,none⟩=some (.slice pe M ce)→wr.cell? ⟨C,2,none⟩=some (.slice pt T ct)→wr.cell? ⟨C,3,none⟩=some vc→wr.frozen? ⟨C,3,none⟩=false→OwnOf (Rep.slice Rep.int) wr (fun b=>b≠C) (C+1) 29 vc done→CkA wr C q types vc done from fun wr vc done hx c0 c1 c2 c3 c4 ow=>by
     have hv:=old_view hx (vc:=vc) HCW.out (fun k hk=>by have:=(ow.lt k hk).1;have:=HCW.out;omega)
     exact⟨⟨_,c0,HNN.out.ext hv⟩,⟨_,c1,HEE.out.ext hv⟩,⟨_,c2,HTT.out.ext hv⟩,c3,c4,ow⟩)
    have HC1:=Lib.hid (HMK.out W1 _ [] HX1.out k0 k1 k2 k3 k4 (OwnOf.nil _ _ _ _ _))
    have HC0:=Lib.hid (And.intro k0 (And.intro k1 k2))
    have eq0:=cell_lt q0
    clear hW1 hC k0 k1 k2 k3 k4
    go_loopg [34] N (fun gj vi wr=> ∃(i:Nat) (vc:Value) (done:List (List Int)),i≤N∧gj=N - i∧vi = .int .i64 i∧Hid (colsUpto q types i=(done,0)∧ ∀l∈done,l.length≤64)∧Hid (CkA wr C q types vc done)∧Hid (wr.cell? ⟨C,0,none⟩=some (.slice pn N cn)∧wr.cell? ⟨C,1,none⟩=some (.slice pe M ce)∧wr.cell? ⟨C,2,none⟩=some (.slice pt T ct))∧Hid (Ext w wr∧C<wr.heap.size))
    case atStart=>exact⟨0,_,[],by omega,rfl,rfl,⟨rfl,fun l hl=>by simp at hl⟩,HC1.out,HC0.out,HX1.out,by rw [HSZ.out];exact Nat.lt_succ_self C⟩
    case round =>
     clear HC1 HC0 HX1 HSZ q0 eq0
     obtain⟨i,vc,done,hi,rfl,rfl,HUP,HCK,HC0,HXX⟩:=hrel
     have HDL:=Lib.hid (show done.length=i from by have h:=colsUpto_len q types i (by rw [HUP.out.1]);rw [HUP.out.1]at h;exact h)
     by_cases hin:i<N
     ·have hdi:decide ((i:Int)<(N:Int))=true:=by simp;omega
      have hix:(i:Int)<(N:Int):=by omega
      have hil:i<q.nodes.length:=by have:=HN.out;omega
      obtain⟨bn,on',rfl⟩:=HPN.out (by decide) (by omega)
      obtain⟨w1e,w1a,d0,d1,d2,d3,d4,d5,d6,se,sg,-,-⟩:=node_at (by have h:=HNN.out;rw [HN.out]at h;exact h) i hil
      have hbx:=HBB.out q.nodes[i] (List.getElem_mem hil)
      have HST:=Lib.hid (show colsUpto q types (i+1)=if (colsN q.exprs types done q.nodes[i]).2≠0 then([],(colsN q.exprs types done q.nodes[i]).2)else if (colsN q.exprs types done q.nodes[i]).1.length=0∨64<(colsN q.exprs types done q.nodes[i]).1.length then([],4)else(done ++ [(colsN q.exprs types done q.nodes[i]).1],0)from by
       conv=>lhs;unfold colsUpto
       rw [HUP.out.1,if_neg (fun h=>h rfl),getElem!_pos q.nodes i hil])
      generalize q.nodes[i]=x at d0 d1 d2 d3 d4 d5 d6 se sg hbx HST
      obtain⟨xk,xa,xb,xp,xt,xe,xg⟩:=x
      dsimp only at d0 d1 d2 d3 d4 d5 d6 se sg hbx
      obtain⟨p1,c1,rfl,_⟩:=se.form
      obtain⟨p2,c2,rfl,_⟩:=sg.form
      have HSE:=Lib.hid se
      have HSG:=Lib.hid sg
      have HBX:=Lib.hid hbx
      replace d0:=HXX.out.1.at d0
      replace d1:=HXX.out.1.at d1
      replace d2:=HXX.out.1.at d2
      replace d3:=HXX.out.1.at d3
      replace d4:=HXX.out.1.at d4
      replace d5:=HXX.out.1.at d5
      replace d6:=HXX.out.1.at d6
      have ed:=cell_lt d0
      clear hil se sg hbx
      go_wp2_with fail
      refine(node_any C q types vc done ⟨xk,xa,xb,xp,xt,xe,xg⟩ _ _ _ (HCK.out.ext ((Ext.refl wr).alloc _)) (HSE.out.ext (HXX.out.1.alloc _).full) (HSG.out.ext (HXX.out.1.alloc _).full) HTL.out (fun l hl=>by have:=HUP.out.2 l hl;omega) HBX.out.1 HBX.out.2).mono ?_
      rintro e w2 ⟨v2,rfl,s2,x2⟩
      obtain⟨R,hR⟩ : ∃z,z=(colsN q.exprs types done ⟨xk,xa,xb,xp,xt,xe,xg⟩).2:=⟨_,rfl⟩
      obtain⟨cols,hcols⟩ : ∃z,z=(colsN q.exprs types done ⟨xk,xa,xb,xp,xt,xe,xg⟩).1:=⟨_,rfl⟩
      have hst:=HST.out
      rw [←hR,←hcols]at hst
      rw [←hcols]at s2
      rw [←hR]
      have HS:=Lib.hid hst
      obtain⟨p3,q3,rfl,_⟩:=s2.form
      obtain⟨n3,hn3⟩ : ∃z,z=cols.length:=⟨_,rfl⟩
      rw [←hn3]at s2 ⊢
      have HN3:=Lib.hid hn3
      have S2:=Lib.hid s2
      have HX2:=Lib.hid (show Ext wr w2 from ((Ext.refl wr).alloc _).trans x2)
      have HW2:=Lib.hid (HXX.out.1.trans HX2.out)
      have HCK2:=Lib.hid (HCK.out.ext HX2.out)
      have HSZ2:=Lib.hid (show C<w2.heap.size from Nat.lt_of_lt_of_le HXX.out.2 HX2.out.size)
      have l3:=HCK2.out.cc
      have f3:=HCK2.out.ff
      have e3:=cell_lt l3
      clear x2 s2 d0 d1 d2 d3 d4 d5 d6 ed hst hcols hn3 HST hR
      by_cases r0:R=0
      ·have z0:(R != 0)=false:=by simp [r0]
       by_cases m0:n3=0
       ·have z1:((n3:Int)==0)=true:=by simp [m0]
        have HR2:=Lib.hid (show columnsQ q types=([],4)from by
         rw [HQ.out]
         refine colsUpto_err q types (i:=i+1) (by omega) (by decide) ?_
         rw [HS.out,if_neg (fun h=>h r0),if_pos (.inl (by rw [←HN3.out];exact m0))])
        clear r0 m0
        go_wp2_with fail
        exact bodyPost_ret (v:= .tuple #[.slice none 0 0,.int .i64 4]) (by simp [results,Tryz.results50,go_sem]) rfl ⟨_,by rw [HR2.out],by rw [HR2.out];exact SliceOf.nil _ _,HW2.out⟩
       ·have z1:((n3:Int)==0)=false:=by simp [m0]
        by_cases m1:64<n3
        ·have z2:decide ((64:Int)<(n3:Int))=true:=by simp;omega
         have HR2:=Lib.hid (show columnsQ q types=([],4)from by
          rw [HQ.out]
          refine colsUpto_err q types (i:=i+1) (by omega) (by decide) ?_
          rw [HS.out,if_neg (fun h=>h r0),if_pos (.inr (by rw [←HN3.out];exact m1))])
         clear r0 m0 m1
         go_wp2_with fail
         exact bodyPost_ret (v:= .tuple #[.slice none 0 0,.int .i64 4]) (by simp [results,Tryz.results50,go_sem]) rfl ⟨_,by rw [HR2.out],by rw [HR2.out];exact SliceOf.nil _ _,HW2.out⟩
        ·have z2:decide ((64:Int)<(n3:Int))=false:=by simp;omega
         have HS2:=Lib.hid (show colsUpto q types (i+1)=(done ++ [cols],0)from by rw [HS.out,if_neg (fun h=>h r0),if_neg (by rw [←HN3.out];omega)])
         have HLE:=Lib.hid (show cols.length≤64 from by rw [←HN3.out];omega)
         have B1:done.length+1≤maxLen:=by rw [HDL.out];unfold maxLen;omega
         have B2:(done.length+1)*24≤140737488355328:=by rw [HDL.out];omega
         clear r0 m0 m1
         go_wp2_with (at_builtin;go_loud (refine wpList_append_one (Rep.slice Rep.int) (fun b=>b≠C) rfl _ _ 99 rfl (C+1) 29 i4 _ 24 Tryz.underlying99 hi4 hz40 hz41 hz42 rfl (by decide) vc done rfl (HCK2.out.own.ext ((Ext.refl w2).alloc _)) ⟨w2.heap.size,0,none⟩ 1 cols [.slice p3 n3 q3] rfl ⟨_,rfl,S2.out.ext (Ext.sub ((Ext.refl w2).alloc _) _)⟩ (by exact cells_new w2 [.slice p3 n3 q3] _) B1 B2 (by exact Nat.le_trans HSZ2.out ((Ext.refl w2).alloc _).size) ?_))
         intro g cap w3 own gr hgb
         have hx2a:=(Ext.refl w2).alloc (.cells #[.slice p3 n3 q3] 29)
         have hne : ∀k,vc.ownBlock=some k→k≠C:=fun k hk=>by have:=(HCK2.out.own.lt k hk).1;omega
         have k0:=cell_grown gr (hx2a.at (HX2.out.at HC0.out.1)) hne
         have k1:=cell_grown gr (hx2a.at (HX2.out.at HC0.out.2.1)) hne
         have k2:=cell_grown gr (hx2a.at (HX2.out.at HC0.out.2.2)) hne
         have k3:=cell_grown gr (hx2a.at l3) hne
         have k4:w3.frozen? ⟨C,3,none⟩=false:=(World.frozen?_of_block (w:=w2.alloc (.cells #[.slice p3 n3 q3] 29)) (gr.block C (cell_lt (hx2a.at l3)) (fun e=>hne C e.symm rfl))).trans (hx2a.unfrozen l3 f3)
         have HX3:=Lib.hid (show Ext w w3 from ext_grown (HW2.out.trans hx2a) gr (fun k hk=>by have h1:=(HCK2.out.own.lt k hk).1;have h2:=HCW.out;omega))
         have HS3:=Lib.hid (show C<w3.heap.size from cell_lt k3)
         have HO3:=Lib.hid own
         have HK:=Lib.hid (And.intro k0 (And.intro k1 k2))
         have e4:=cell_lt k3
         clear own gr hgb hx2a hne k0 k1 k2 l3 f3 e3
         go_wp2_with fail
         go_roundg (N - (i+1))
         case measure=>omega
         case rel =>
          refine⟨i+1,_,done ++ [cols],by omega,rfl,by go_num,⟨HS2.out,fun l hl=> ?_⟩,HMK.out _ (.slice (some ⟨g,0,none⟩) (done.length+1) cap) _ (Below.setCell HX3.out HCW.out _) (cell_far HK.out.1 (by decide)) (cell_far HK.out.2.1 (by decide)) (cell_far HK.out.2.2 (by decide)) (by go_simp) ((frozen_set _ _ _ _).trans k4) (HO3.out.set _ (Nat.lt_succ_self C) (fun h=>h rfl)),⟨cell_far HK.out.1 (by decide),cell_far HK.out.2.1 (by decide),cell_far HK.out.2.2 (by decide)⟩,Below.setCell HX3.out HCW.out _,by first | (go_simp;done) | (have:=HS3.out;go_simp;omega)⟩
          rcases List.mem_append.1 hl with hl | hl
          ·exact HUP.out.2 l hl
          ·rw [List.mem_singleton.1 hl];exact HLE.out
      ·have z0:(R != 0)=true:=by simp [r0]
       have HR2:=Lib.hid (show columnsQ q types=([],R)from by
        rw [HQ.out]
        refine colsUpto_err q types (i:=i+1) (by omega) r0 ?_
        rw [HS.out,if_pos r0])
       clear r0
       go_wp2_with fail
       exact bodyPost_ret (v:= .tuple #[.slice none 0 0,.int .i64 R]) (by simp [results,Tryz.results50,go_sem]) rfl ⟨_,by rw [HR2.out],by rw [HR2.out];exact SliceOf.nil _ _,HW2.out⟩
     ·have hin2:i=N:=by omega
      have hdi:decide ((i:Int)<(N:Int))=false:=by simp;omega
      have HR2:=Lib.hid (show columnsQ q types=(done,0)from by rw [HQ.out,←hin2];exact HUP.out.1)
      have l3:=HCK.out.cc
      have e3:=cell_lt l3
      have HSL:=Lib.hid (HCK.out.own.slice)
      clear hin2
      go_wp2_with fail
      exact bodyPost_ret (v:= .tuple #[vc,.int .i64 0]) (by simp [results,Tryz.results50,go_sem]) rfl ⟨_,by rw [HR2.out],by rw [HR2.out];exact HSL.out,HXX.out.1⟩
theorem colsUpto_64 (q:QueryI) (types:List TypI) (i:Nat) (h:(colsUpto q types i).2=0) : ∀l∈(colsUpto q types i).1,l.length≤64:=by
 induction i with
 |zero=>intro l hl;simp [colsUpto]at hl
 |succ i ih =>
  unfold colsUpto at h ⊢
  by_cases c1:(colsUpto q types i).2≠0
  ·rw [if_pos c1]at h;exact absurd h c1
  rw [if_neg c1]at h ⊢
  by_cases c2:(colsN q.exprs types (colsUpto q types i).1 q.nodes[i]!).2≠0
  ·rw [if_pos c2]at h;exact absurd h c2
  rw [if_neg c2]at h ⊢
  by_cases c3:(colsN q.exprs types (colsUpto q types i).1 q.nodes[i]!).1.length=0∨64<(colsN q.exprs types (colsUpto q types i).1 q.nodes[i]!).1.length
  ·rw [if_pos c3]at h;cases h
  rw [if_neg c3]
  intro l hl
  rcases List.mem_append.1 hl with hl | hl
  ·exact ih (Decidable.not_not.1 c1) l hl
  ·rw [List.mem_singleton.1 hl];omega
theorem columnsQ_len (q:QueryI) (types:List TypI) (h:(columnsQ q types).2=0):(0<(columnsQ q types).1.length∧(columnsQ q types).1.length≤40)∧ ∀l∈(columnsQ q types).1,l.length≤64:=by
 unfold columnsQ at h ⊢
 split at h
 ·cases h
 ·rename_i c
  rw [if_neg c]
  refine⟨?_,colsUpto_64 q types _ h⟩
  rw [colsUpto_len q types _ h]
  omega
set_option maxRecDepth 100000 in
set_option maxHeartbeats 8000000 in
theorem check_any (q:QueryI) (types:List TypI) (vn ve vt:Value) (w:World) (hn:SliceOf Rep.node w.cell? vn q.nodes) (he:SliceOf Rep.expr w.cell? ve q.exprs) (ht:SliceOf Rep.typ w.cell? vt types) (htl:types.length≤1048576) (hb : ∀x∈q.nodes,x.exprs.length≤1048576∧x.aggs.length≤1048576) :
  Calls Tryz.prog 17 #[.agg #[vn,ve],vt] w fun e w'=> ∃v,e = .returned (.tuple #[v,.int .i64 (checkQ q types).2])∧SliceOf Rep.int w'.cell? v (checkQ q types).1∧Ext w w':=by
 have HNN:=Lib.hid hn
 have HEE:=Lib.hid he
 have HTT:=Lib.hid ht
 have HTL:=Lib.hid htl
 have HBB:=Lib.hid hb
 obtain⟨pn,cn,rfl,_⟩:=hn.form
 obtain⟨pe,ce,rfl,_⟩:=he.form
 obtain⟨pt,ct,rfl,_⟩:=ht.form
 obtain⟨N,hN⟩ : ∃z,z=q.nodes.length:=⟨_,rfl⟩
 obtain⟨M,hM⟩ : ∃z,z=q.exprs.length:=⟨_,rfl⟩
 obtain⟨T,hT⟩ : ∃z,z=types.length:=⟨_,rfl⟩
 rw [←hN]at HNN
 rw [←hM]at HEE
 rw [←hT]at HTT
 rw [←hN,←hM,←hT]
 clear hn he ht htl hb hN hM hT
 go_enter Tryz.func17,Tryz.ntmps17
 go_wp2_with fail
 refine(columns_any q types _ _ _ _ (HNN.out.ext ((Ext.refl w).alloc _).full) (HEE.out.ext ((Ext.refl w).alloc _).full) (HTT.out.ext ((Ext.refl w).alloc _).full) HTL.out HBB.out).mono ?_
 rintro e w2 ⟨v2,rfl,s2,x2⟩
 have hlen:=columnsQ_len q types
 have hck:checkQ q types=if (columnsQ q types).2≠0 then([],(columnsQ q types).2)else((columnsQ q types).1.getLastD [],0):=rfl
 obtain⟨R,hR⟩ : ∃z,z=(columnsQ q types).2:=⟨_,rfl⟩
 obtain⟨cs,hcs⟩ : ∃z,z=(columnsQ q types).1:=⟨_,rfl⟩
 rw [←hR,←hcs]at hck hlen
 rw [←hcs]at s2
 rw [←hR]
 have HCK:=Lib.hid hck
 have HX2:=Lib.hid (((Ext.refl w).alloc _).trans x2)
 obtain⟨p2,c2,rfl,_,_,hp2⟩:=s2.form
 by_cases h0:R=0
 ·have b0:(R != 0)=false:=by simp [h0]
  obtain⟨⟨hl,hl40⟩,hl64⟩:=hlen h0
  obtain⟨b2,o2,rfl⟩:=hp2 (by decide) hl
  obtain⟨K,hK⟩ : ∃K,cs.length=K+1:=⟨cs.length - 1,by omega⟩
  obtain⟨vr,r0,rs⟩:=rows_at s2 K (by omega)
  have HR:=Lib.hid (show checkQ q types=(cs[K]'(by omega),0)from by
   rw [HCK.out,if_neg (fun h=>h h0),List.getLastD_eq_getLast?,List.getLast?_eq_getElem?,show cs.length - 1=K from by omega,List.getElem?_eq_getElem (by omega)]
   rfl)
  have hrow:(cs[K]'(by omega)).length≤64:=hl64 _ (List.getElem_mem _)
  generalize cs[K]'(by omega)=row at rs HR hrow
  obtain⟨pr,cr,rfl,hr1,hr2,_⟩:=rs.form
  have HRS:=Lib.hid rs
  have HB:=Lib.hid (show row.length*8≤140737488355328 from by omega)
  obtain⟨L,hL⟩ : ∃z,z=cs.length:=⟨_,rfl⟩
  rw [←hL]at hK ⊢
  have em:(L:Int) - 1=(K:Int):=by omega
  have hKL:(K:Int)<(L:Int):=by omega
  have hKL2:K<L:=by omega
  have er:=cell_lt r0
  have hK40:K≤40:=by omega
  clear h0 hl hl40 hl64 hrow hlen hck hcs s2 hp2 rs x2 hR hK hL hr1 hr2
  go_wp2_with fail
  refine(clone_ints _ row _ HRS.out HB.out).mono ?_
  rintro e w3 ⟨v3,rfl,s3,x3⟩
  have S3:=Lib.hid (s3.ext (on_sub _ _))
  have HF:=Lib.hid (HX2.out.trans x3)
  obtain⟨p4,c4,rfl,_⟩:=s3.form
  obtain⟨n4,hn4⟩ : ∃z,z=row.length:=⟨_,rfl⟩
  rw [←hn4]at S3 ⊢
  clear s3 x3 hn4
  go_wp2_with fail
  exact bodyPost_ret (v:= .tuple #[.slice p4 n4 c4,.int .i64 0]) (by simp [results,Tryz.results17,go_sem]) rfl ⟨_,by rw [HR.out],by rw [HR.out];exact S3.out,HF.out⟩
 ·have b0:(R != 0)=true:=by simp [h0]
  have HR:=Lib.hid (HCK.out.trans (if_pos h0))
  clear h0 hlen hck hcs s2 hp2 x2 hR
  go_wp2_with fail
  exact bodyPost_ret (v:= .tuple #[.slice none 0 0,.int .i64 R]) (by simp [results,Tryz.results17,go_sem]) rfl ⟨_,by rw [HR.out],by rw [HR.out];exact SliceOf.nil _ _,HX2.out⟩
end Go.Proofs.YtombmdaohcjokaaGreatDoor
namespace Go.Proofs.YtombmdaohcjokaaGreatDoor
open Go.RowKit Go.Maps Go.Deep
theorem info_typ:(Tryz.prog.info? 39).map (fun i=>(i.zero,i.size,i.bytes))=some (some (.agg #[.string ByteArray.empty,.slice none 0 0]),Rep.typ.size,40):=by kernel_rfl
theorem info_rowsS:(Tryz.prog.info? 40).map (fun i=>(i.zero,i.size,i.bytes))=some (some (.slice none 0 0),(Rep.slice Rep.row).size,24):=by kernel_rfl
def FitRun (q:QueryI) (db:List TabI):Prop:= ∀i,i≤q.nodes.length→ ∀l∈(evalUpto q db (columnsQ q (db.map TabI.typ)).1 i).1,∀r∈l,fitE r
def FitQ (q:QueryI):Prop:=(∀e∈q.exprs,e.c.s.size≤1048576)∧ ∀x∈q.nodes,x.exprs.length≤1000∧x.aggs.length≤1000
set_option maxRecDepth 100000 in
set_option maxHeartbeats 16000000 in
theorem eval_query (q:QueryI) (db:List TabI) (vn ve vt:Value) (w:World) (hn:SliceOf Rep.node w.cell? vn q.nodes) (he:SliceOf Rep.expr w.cell? ve q.exprs) (hdb:SliceOf Rep.tab w.cell? vt db) (hdl:db.length≤1000) (hq:FitQ q) (hf:FitRun q db) (ht:TabW w) :
  Calls Tryz.prog 21 #[.agg #[vn,ve],vt] w fun e w'=> ∃v,e = .returned (.tuple #[v,.int .i64 (evalQ q db).2])∧SliceOf Rep.row w'.cell? v (evalQ q db).1∧Ext w w':=by
 obtain⟨i1,hi1,hz10,hz11,hz12⟩:=info_parts info_typ
 obtain⟨i4,hi4,hz40,hz41,hz42⟩:=info_parts info_rowsS
 have HNN:=Lib.hid hn
 have HEE:=Lib.hid he
 have HDB:=Lib.hid hdb
 have HQ:=Lib.hid hq
 have HFR:=Lib.hid hf
 have HTW:=Lib.hid ht
 obtain⟨pn,cn,rfl,_,_,hpn⟩:=hn.form
 obtain⟨pe,ce,rfl,-⟩:=he.form
 obtain⟨pt,ct,rfl,_,_,hpt⟩:=hdb.form
 obtain⟨N,hN⟩ : ∃z,z=q.nodes.length:=⟨_,rfl⟩
 obtain⟨M,hM⟩ : ∃z,z=q.exprs.length:=⟨_,rfl⟩
 obtain⟨D,hD⟩ : ∃z,z=db.length:=⟨_,rfl⟩
 rw [←hN]at hpn HNN
 rw [←hM]at HEE
 rw [←hD]at hpt HDB
 rw [←hN,←hM,←hD]
 have HN:=Lib.hid hN
 have HM:=Lib.hid hM
 have HD:=Lib.hid hD
 have HPN:=Lib.hid hpn
 have HPT:=Lib.hid hpt
 have hD1:D≤1000:=by omega
 obtain⟨types,htypes⟩ : ∃z,z=db.map TabI.typ:=⟨_,rfl⟩
 have HTY:=Lib.hid htypes
 clear hn he hdb hpn hpt hN hM hD hdl hq hf ht htypes
 go_enter Tryz.func21,Tryz.ntmps21
 go_wp2_with fail
 obtain⟨QB,hQB⟩ : ∃z,z=w.heap.size:=⟨_,rfl⟩
 obtain⟨W1,hW1⟩ : ∃z,z=w.alloc (.cells #[.slice pn N cn,.slice pe M ce] 25):=⟨_,rfl⟩
 have X1:=Lib.hid (show Ext w W1 from by rw [hW1];exact(Ext.refl w).alloc _)
 have QC:=Lib.hid (show W1.cell? ⟨QB,0,none⟩=some (.slice pn N cn)∧W1.cell? ⟨QB,1,none⟩=some (.slice pe M ce)from by rw [hW1,hQB];exact⟨by go_simp,by go_simp⟩)
 rw [←hW1]
 try rw [←hQB]
 clear hW1 hQB
 go_loopg [6,17] D (fun gk vo vi wr=> ∃(k:Nat) (u:Value) (o:List TypI),k≤D∧gk=D - k∧vi = .int .i64 k∧u=vo∧Hid (OwnOf Rep.typ wr (fun _=>True) W1.heap.size 39 u o)∧Hid (o=(db.take k).map TabI.typ)∧Hid (Ext W1 wr))
 case atStart=>exact⟨0,_,[],by omega,rfl,rfl,rfl,OwnOf.nil _ _ _ _ _,rfl,Ext.refl W1⟩
 case round =>
  obtain⟨k,u,o,hk,rfl,rfl,rfl,OW,HO,X⟩:=hrel
  by_cases hlt:k<D
  ·have hkl:k<db.length:=by have:=HD.out;omega
   have hd:decide ((k:Int)<(D:Int))=true:=by simp;omega
   obtain⟨ba,oa,rfl⟩:=HPT.out (by decide) (by omega)
   obtain⟨vk,vrow,c0,c1,c2,ck,cr,hnm⟩:=tab_at (by have h:=HDB.out;rw [HD.out]at h;exact h) k hkl
   have hst:=map_takeR TabI.typ db k hkl
   rw [←HO.out]at hst
   have hol:o.length≤1000:=by rw [HO.out,List.length_map,List.length_take];omega
   have X2:=X1.out.trans X.out
   replace c0:=X2.at c0
   replace c1:=X2.at c1
   replace c2:=X2.at c2
   generalize db[k]=t at c0 c1 c2 ck cr hnm hst
   obtain⟨⟨tn,tk⟩,tr⟩:=t
   dsimp only at c0 c1 c2 ck cr hnm hst
   obtain⟨p1,k1,rfl,-⟩:=ck.form
   obtain⟨p2,k2,rfl,-⟩:=cr.form
   obtain⟨nr,hnr⟩ : ∃z,z=tr.length:=⟨_,rfl⟩
   obtain⟨nk,hnk⟩ : ∃z,z=tk.length:=⟨_,rfl⟩
   rw [←hnr]at c2
   rw [←hnk]at c1 ck
   have HCK:=Lib.hid ck
   have HNM:=Lib.hid hnm
   have HST:=Lib.hid hst
   have e0:=cell_lt c0
   have B1:o.length+1≤maxLen:=by unfold maxLen;omega
   have B2:(o.length+1)*40≤140737488355328:=by omega
   have HBB:=Lib.hid (And.intro B1 B2)
   have OA:=Lib.hid (show ∀(a b:Obj),OwnOf Rep.typ ((wr.alloc a).alloc b) (fun _=>True) W1.heap.size 39 u o from fun a b=>OW.out.ext (((Ext.refl wr).alloc a).alloc b))
   have HNY:=Lib.hid (show ∀(a b:Obj),Rep.typ.holds (on ((wr.alloc a).alloc b) (avoid (fun _=>True) u)) [.string tn,.slice p1 nk k1] ⟨tn,tk⟩from fun a b=>⟨_,rfl,HCK.out.ext (old_all ((X2.alloc a).alloc b) (fun kk hkk=>Nat.le_trans X1.out.size (OW.out.base kk hkk))) |> fun h=>by first | exact h | simpa [hnk] using h,HNM.out⟩)
   clear ck cr hnm hst hol hnr hnk X2 B1 B2 hkl
   go_wp2_with (at_builtin;go_loud (refine wpList_append_one Rep.typ (fun _=>True) rfl _ _ 33 rfl W1.heap.size 39 i1 _ 40 Tryz.underlying33 hi1 hz10 hz11 hz12 rfl (by decide) u o rfl (by exact OA.out _ _) ⟨_,0,none⟩ 1 ⟨tn,tk⟩ [.string tn,.slice p1 nk k1] rfl (by exact HNY.out _ _) (by exact cells_new2 wr _ [.string tn,.slice p1 nk k1] _) HBB.out.1 HBB.out.2 (by exact Nat.le_trans X.out.size (((Ext.refl wr).alloc _).alloc _).size) ?_))
   intro g9 cap9 w7 own gr9 _
   have X7:=Lib.hid (show Ext W1 w7 from ext_grown ((X.out.alloc _).alloc _) gr9 OW.out.base)
   have OW7:=Lib.hid own
   clear own gr9
   go_wp2_with fail
   go_roundg (D - (k+1))
   case measure=>omega
   case rel=>exact⟨k+1,_,o ++ [(⟨tn,tk⟩:TypI)],by omega,rfl,by go_num,rfl,OW7.out,HST.out.symm,X7.out⟩
  ·have hkD:k=D:=by omega
   have hd:decide ((k:Int)<(D:Int))=false:=by simp;omega
   have HF:=Lib.hid (show o=types from by have h:=HO.out;rwa [hkD,HD.out,List.take_length,←HTY.out]at h)
   obtain⟨wt,rfl⟩ : ∃z,z=wr:=⟨wr,rfl⟩
   have SO:=Lib.hid (show SliceOf Rep.typ wt.cell? u types from by have h:=OW.out.slice;rwa [HF.out]at h)
   have HTL:=Lib.hid (show types.length≤1048576 from by rw [HTY.out,List.length_map,←HD.out];omega)
   have X2:=Lib.hid (X1.out.trans X.out)
   have q0:=X.out.at QC.out.1
   have q1:=X.out.at QC.out.2
   have e0:=cell_lt q0
   clear hkD HO OW hk
   go_wp2_with fail
   refine(columns_any q types _ _ _ _ (by have h:=HNN.out.ext X2.out.full;exact h) (HEE.out.ext X2.out.full) SO.out HTL.out (fun x hx=>by have:=HQ.out.2 x hx;omega)).mono ?_
   rintro e w2 ⟨v2,rfl,s2,x2⟩
   have hok:=columnsQ_ok q types
   have h64:=columnsQ_len q types
   have hev:evalQ q db=if (columnsQ q types).2≠0 then([],(columnsQ q types).2)else if (evalUpto q db (columnsQ q types).1 q.nodes.length).2≠0 then([],(evalUpto q db (columnsQ q types).1 q.nodes.length).2)else(sortBy cmpRow ((evalUpto q db (columnsQ q types).1 q.nodes.length).1.getLastD []),0):=by unfold evalQ;rw [←HTY.out]
   have hfr : ∀i,i≤q.nodes.length→ ∀l∈(evalUpto q db (columnsQ q types).1 i).1,∀r∈l,fitE r:=by have h:=HFR.out;unfold FitRun at h;rwa [←HTY.out]at h
   obtain⟨R,hR⟩ : ∃z,z=(columnsQ q types).2:=⟨_,rfl⟩
   obtain⟨cols,hcols⟩ : ∃z,z=(columnsQ q types).1:=⟨_,rfl⟩
   rw [←hR,←hcols]at hok h64 hev
   rw [←hcols]at s2 hfr
   rw [←hR]
   have HEV:=Lib.hid hev
   have S2:=Lib.hid s2
   have HX2:=Lib.hid (X2.out.trans x2)
   obtain⟨p3,q3,rfl,-⟩:=s2.form
   by_cases r0:R=0
   ·have z0:(R != 0)=false:=by simp [r0]
    have HOK:=Lib.hid (hok r0)
    have H64:=Lib.hid (h64 r0)
    have HFR2:=Lib.hid hfr
    obtain⟨nC,hnC⟩ : ∃z,z=cols.length:=⟨_,rfl⟩
    rw [←hnC]at S2 ⊢
    have HNC:=Lib.hid hnC
    have HEV2:=Lib.hid (show evalQ q db=if (evalUpto q db cols N).2≠0 then([],(evalUpto q db cols N).2)else(sortBy cmpRow ((evalUpto q db cols N).1.getLastD []),0)from by rw [HEV.out,if_neg (fun h=>h r0),HN.out])
    have q0:=(x2.at q0)
    have q1:=(x2.at q1)
    have e1:=cell_lt q0
    have hN40:N≤40:=by have:=HOK.out.2.1;have:=HN.out;omega
    clear r0 hok h64 hev hfr s2 hR hcols hnC
    go_wp2_with fail
    obtain⟨E,hE⟩ : ∃z,z=w2.heap.size:=⟨_,rfl⟩
    obtain⟨W3,hW3⟩ : ∃z,z=w2.alloc (.cells #[.slice pn N cn,.slice pe M ce,.slice pt D ct,.slice p3 nC q3,.slice none 0 0] 108):=⟨_,rfl⟩
    have X3:=Lib.hid (show Ext w2 W3 from by rw [hW3];exact(Ext.refl w2).alloc _)
    have KC:=Lib.hid (show W3.cell? ⟨E,0,none⟩=some (.slice pn N cn)∧W3.cell? ⟨E,1,none⟩=some (.slice pe M ce)∧W3.cell? ⟨E,2,none⟩=some (.slice pt D ct)∧W3.cell? ⟨E,3,none⟩=some (.slice p3 nC q3)∧W3.cell? ⟨E,4,none⟩=some (.slice none 0 0)∧W3.frozen? ⟨E,4,none⟩=false from by rw [hW3,hE];exact⟨by go_simp,by go_simp,by go_simp,by go_simp,by go_simp,by go_simp⟩)
    have HSZ:=Lib.hid (show W3.heap.size=E+1 from by rw [hW3,hE];exact alloc_size _ _)
    have HEW:=Lib.hid (show w2.heap.size≤E from by omega)
    rw [←hW3]
    try rw [←hE]
    have HMK:=Lib.hid (show ∀(wr:World) (vr:Value) (done:List (List Row)),Ext w2 wr→wr.cell? ⟨E,0,none⟩=some (.slice pn N cn)→wr.cell? ⟨E,1,none⟩=some (.slice pe M ce)→wr.cell? ⟨E,2,none⟩=some (.slice pt D ct)→wr.cell? ⟨E,3,none⟩=some (.slice p3 nC q3)→wr.cell? ⟨E,4,none⟩=some vr→wr.frozen? ⟨E,4,none⟩=false→OwnOf (Rep.slice Rep.row) wr (fun b=>b≠E) (E+1) 40 vr done→EvA wr E q db cols vr done from fun wr vr done hx c0 c1 c2 c3 c4 c5 ow=>by
     have hv:=old_view hx (vc:=vr) HEW.out (fun k hk=>by have:=(ow.lt k hk).1;have:=HEW.out;omega)
     have hv0:=fun p u e=>hv p u (HX2.out.at e)
     exact⟨⟨_,c0,HNN.out.ext hv0⟩,⟨_,c1,HEE.out.ext hv0⟩,⟨_,c2,HDB.out.ext hv0⟩,⟨_,c3,S2.out.ext hv⟩,c4,c5,ow⟩)
    have HE1:=Lib.hid (HMK.out W3 _ [] X3.out KC.out.1 KC.out.2.1 KC.out.2.2.1 KC.out.2.2.2.1 KC.out.2.2.2.2.1 KC.out.2.2.2.2.2 (OwnOf.nil _ _ _ _ _))
    have HX3:=Lib.hid (HX2.out.trans X3.out)
    have HKK:=Lib.hid (And.intro (X3.out.at q0) (X3.out.at q1))
    have k0:=HKK.out.1
    have e2:=cell_lt k0
    clear hW3 hE q0 q1 e0 e1 x2
    go_wp2_with fail
    go_loopg [44] N (fun gj vi wr=> ∃(i:Nat) (vr:Value) (done:List (List Row)),i≤N∧gj=N - i∧vi = .int .i64 i∧Hid (evalUpto q db cols i=(done,0))∧Hid (EvA wr E q db cols vr done)∧Hid (wr.cell? ⟨E,0,none⟩=some (.slice pn N cn)∧wr.cell? ⟨E,1,none⟩=some (.slice pe M ce)∧wr.cell? ⟨E,2,none⟩=some (.slice pt D ct)∧wr.cell? ⟨E,3,none⟩=some (.slice p3 nC q3))∧Hid (Ext w2 wr∧E<wr.heap.size))
    case atStart=>exact⟨0,_,[],by omega,rfl,rfl,rfl,HE1.out,⟨KC.out.1,KC.out.2.1,KC.out.2.2.1,KC.out.2.2.2.1⟩,X3.out,by rw [HSZ.out];exact Nat.lt_succ_self E⟩
    case round =>
     clear HE1 KC HSZ k0 e2
     obtain⟨i,vr,done,hi,rfl,rfl,HUP,HEA,HC0,HXX⟩:=hrel
     have HDL:=Lib.hid (show done.length=i from by have h:=evalUpto_len q db cols i (by rw [HUP.out]);rw [HUP.out]at h;exact h)
     by_cases hin:i<N
     ·have hdi:decide ((i:Int)<(N:Int))=true:=by simp;omega
      have hix:(i:Int)<(N:Int):=by omega
      have hil:i<q.nodes.length:=by have:=HN.out;omega
      obtain⟨bn,on',rfl⟩:=HPN.out (by decide) (by omega)
      obtain⟨w1e,w1a,d0,d1,d2,d3,d4,d5,d6,se,sg,-,-⟩:=node_at (by have h:=HNN.out;rw [HN.out]at h;exact h) i hil
      have hbx:=HQ.out.2 q.nodes[i] (List.getElem_mem hil)
      have hnode:=HOK.out.2.2 i hil
      have HST:=Lib.hid (show evalUpto q db cols (i+1)=if 4096<(nodeP q.exprs db cols done q.nodes[i]).length then([],12)else(done ++ [nodeP q.exprs db cols done q.nodes[i]],0)from by
       conv=>lhs;unfold evalUpto
       rw [HUP.out,if_neg (fun h=>h rfl),getElem!_pos q.nodes i hil])
      rw [getElem!_pos q.nodes i hil]at hnode
      generalize q.nodes[i]=x at d0 d1 d2 d3 d4 d5 d6 se sg hbx HST hnode
      obtain⟨xk,xa,xb,xp,xt,xe,xg⟩:=x
      dsimp only at d0 d1 d2 d3 d4 d5 d6 se sg hbx hnode
      obtain⟨p1,c1,rfl,-⟩:=se.form
      obtain⟨p2,c2,rfl,-⟩:=sg.form
      have HSE:=Lib.hid se
      have HSG:=Lib.hid sg
      have HBX:=Lib.hid hbx
      have HND:=Lib.hid hnode
      have XW:=HX2.out.trans HXX.out.1
      replace d0:=XW.at d0
      replace d1:=XW.at d1
      replace d2:=XW.at d2
      replace d3:=XW.at d3
      replace d4:=XW.at d4
      replace d5:=XW.at d5
      replace d6:=XW.at d6
      have HXW:=Lib.hid XW
      have HD4:=Lib.hid (show ∀l∈done,l.length≤4096 from by have h:=evalUpto_4096 q db cols i;rw [HUP.out]at h;exact h)
      have HDF:=Lib.hid (show ∀l∈done,∀r∈l,fitE r from by have h:=HFR2.out i (by have:=HN.out;omega);rw [HUP.out]at h;exact h)
      have ed:=cell_lt d0
      clear hil se sg hbx hnode XW
      go_wp2_with fail
      refine(enode_any E q db cols vr done ⟨xk,xa,xb,xp,xt,xe,xg⟩ _ _ _ (HEA.out.ext ((Ext.refl wr).alloc _)) (HSE.out.ext (HXW.out.alloc _).full) (HSG.out.ext (HXW.out.alloc _).full) HND.out.1 (by rw [HDL.out];exact HND.out.2.1) (by rw [HDL.out];exact HND.out.2.2.1) HND.out.2.2.2 ⟨by rw [HOK.out.1,←HN.out];exact hN40,by rw [HDL.out,HOK.out.1,←HN.out];omega⟩ HD4.out HDF.out (fun l hl=>H64.out.2 l hl) (by have:=HOK.out.2.1;omega) HQ.out.1 HBX.out.1 HBX.out.2 (HTW.out.ext (HXW.out.alloc _)) (by have:=HD.out;omega)).mono ?_
      rintro e w4 ⟨v4,rows,rfl,s4,hwo,x4⟩
      obtain⟨full,hfull⟩ : ∃z,z=nodeP q.exprs db cols done ⟨xk,xa,xb,xp,xt,xe,xg⟩:=⟨_,rfl⟩
      have hst:=HST.out
      rw [←hfull]at hst hwo
      have HS:=Lib.hid hst
      have HWO:=Lib.hid hwo
      obtain⟨p5,q5,rfl,-⟩:=s4.form
      obtain⟨n5,hn5⟩ : ∃z,z=rows.length:=⟨_,rfl⟩
      rw [←hn5]at s4 ⊢
      have HN5:=Lib.hid hn5
      have S4:=Lib.hid s4
      have HX4:=Lib.hid (show Ext wr w4 from ((Ext.refl wr).alloc _).trans x4)
      have HW4:=Lib.hid (HXX.out.1.trans HX4.out)
      have HEA4:=Lib.hid (HEA.out.ext HX4.out)
      have HSZ4:=Lib.hid (show E<w4.heap.size from Nat.lt_of_lt_of_le HXX.out.2 HX4.out.size)
      have l4:=HEA4.out.rr
      have f4:=HEA4.out.ff
      have e4:=cell_lt l4
      clear x4 s4 d0 d1 d2 d3 d4 d5 d6 ed hst hwo hfull hn5 HST
      by_cases m1:4096<n5
      ·have z2:decide ((4096:Int)<(n5:Int))=true:=by simp;omega
       have HR2:=Lib.hid (show evalQ q db=([],12)from by
        have hb:4096<full.length:=by
         by_cases hc:((full.length:Nat):Int)≤4096
         ·have h1:=HWO.out.1 hc
          have h2:=HN5.out
          rw [h1]at h2
          omega
         ·omega
        have h1:=evalUpto_err q db cols (i:=i+1) (n:=N) (by omega) (e:=12) (by decide) (by rw [HS.out,if_pos hb])
        rw [HEV2.out,h1,if_pos (by decide)])
       clear m1
       go_wp2_with fail
       exact bodyPost_ret (v:= .tuple #[.slice none 0 0,.int .i64 12]) (by simp [results,Tryz.results21,go_sem]) rfl ⟨_,by rw [HR2.out],by rw [HR2.out];exact SliceOf.nil _ _,HX2.out.trans HW4.out⟩
      ·have z2:decide ((4096:Int)<(n5:Int))=false:=by simp;omega
       have HRW:=Lib.hid (show rows=full∧ ¬ 4096<full.length from by
        have hc:((full.length:Nat):Int)≤4096:=by
         by_cases hc:((full.length:Nat):Int)≤4096
         ·exact hc
         ·have h1:=HWO.out.2 (by omega)
          have h2:=HN5.out
          omega
        exact⟨HWO.out.1 hc,by omega⟩)
       have HS2:=Lib.hid (show evalUpto q db cols (i+1)=(done ++ [rows],0)from by rw [HS.out,if_neg HRW.out.2,HRW.out.1])
       have B1:done.length+1≤maxLen:=by rw [HDL.out];unfold maxLen;omega
       have B2:(done.length+1)*24≤140737488355328:=by rw [HDL.out];omega
       clear m1
       go_wp2_with (at_builtin;go_loud (refine wpList_append_one (Rep.slice Rep.row) (fun b=>b≠E) rfl _ _ 106 rfl (E+1) 40 i4 _ 24 Tryz.underlying106 hi4 hz40 hz41 hz42 rfl (by decide) vr done rfl (HEA4.out.own.ext ((Ext.refl w4).alloc _)) ⟨w4.heap.size,0,none⟩ 1 rows [.slice p5 n5 q5] rfl ⟨_,rfl,S4.out.ext (Ext.sub ((Ext.refl w4).alloc _) _)⟩ (by exact cells_new w4 [.slice p5 n5 q5] _) B1 B2 (by exact Nat.le_trans HSZ4.out ((Ext.refl w4).alloc _).size) ?_))
       intro g cap w5 own gr hgb
       have hx4a:=(Ext.refl w4).alloc (.cells #[.slice p5 n5 q5] 40)
       have hne : ∀k,vr.ownBlock=some k→k≠E:=fun k hk=>by have:=(HEA4.out.own.lt k hk).1;omega
       have k0:=cell_grown gr (hx4a.at (HX4.out.at HC0.out.1)) hne
       have k1:=cell_grown gr (hx4a.at (HX4.out.at HC0.out.2.1)) hne
       have k2:=cell_grown gr (hx4a.at (HX4.out.at HC0.out.2.2.1)) hne
       have k3:=cell_grown gr (hx4a.at (HX4.out.at HC0.out.2.2.2)) hne
       have k4:=cell_grown gr (hx4a.at l4) hne
       have k5:w5.frozen? ⟨E,4,none⟩=false:=frozen_grown gr (hx4a.at l4) (hx4a.unfrozen l4 f4) hne
       have HX5:=Lib.hid (show Ext w2 w5 from ext_grown (HW4.out.trans hx4a) gr (fun k hk=>by have h1:=(HEA4.out.own.lt k hk).1;have h2:=HEW.out;omega))
       have HS5:=Lib.hid (show E<w5.heap.size from cell_lt k4)
       have HO5:=Lib.hid own
       have HK:=Lib.hid (And.intro k0 (And.intro k1 (And.intro k2 k3)))
       have e5:=cell_lt k4
       clear own gr hgb hx4a hne k0 k1 k2 k3 l4 f4 e4
       go_wp2_with fail
       go_roundg (N - (i+1))
       case measure=>omega
       case rel =>
        exact⟨i+1,_,done ++ [rows],by omega,rfl,by go_num,HS2.out,HMK.out _ (.slice (some ⟨g,0,none⟩) (done.length+1) cap) _ (Below.setCell HX5.out HEW.out _) (cell_far HK.out.1 (by decide)) (cell_far HK.out.2.1 (by decide)) (cell_far HK.out.2.2.1 (by decide)) (cell_far HK.out.2.2.2 (by decide)) (by go_simp) ((frozen_set _ _ _ _).trans k5) (HO5.out.set _ (Nat.lt_succ_self E) (fun h=>h rfl)),⟨cell_far HK.out.1 (by decide),cell_far HK.out.2.1 (by decide),cell_far HK.out.2.2.1 (by decide),cell_far HK.out.2.2.2 (by decide)⟩,Below.setCell HX5.out HEW.out _,by first | (go_simp;done) | (have:=HS5.out;go_simp;omega)⟩
     ·have hin2:i=N:=by omega
      have hdi:decide ((i:Int)<(N:Int))=false:=by simp;omega
      obtain⟨K,hK⟩ : ∃K,done.length=K+1:=⟨done.length - 1,by have:=HDL.out;have h1:=HOK.out.2.1.1;have h2:=HN.out;omega⟩
      have hKd:K<done.length:=by omega
      obtain⟨g,cap,p6,n6,c6,hvr,gK,hn6,_,sK⟩:=HEA.out.row hKd
      have HR:=Lib.hid (show evalQ q db=(sortBy cmpRow (done.getD K []),0)from by
       have h:=HUP.out
       rw [hin2]at h
       rw [HEV2.out,h,if_neg (fun h=>h rfl)]
       have hl:done.getLastD []=done.getD K []:=by
        rw [List.getLastD_eq_getLast?,List.getLast?_eq_getElem?,show done.length - 1=K from by omega,List.getD_eq_getElem?_getD]
       show (sortBy cmpRow (done.getLastD []),(0:Int))=_
       rw [hl])
      have hr4:=evalUpto_4096 q db cols i
      have hrf:=HFR2.out i (by have:=HN.out;omega)
      rw [HUP.out]at hr4 hrf
      have hmem:done.getD K []∈done:=by rw [List.getD_eq_getElem?_getD,List.getElem?_eq_getElem hKd,Option.getD_some];exact List.getElem_mem hKd
      have HFT:=Lib.hid (show fitRows (done.getD K [])from ⟨by have:=hr4 _ hmem;show _≤_;omega,fun r hr=>by have:=hrf _ hmem r hr;exact⟨by have:=this.1;omega,by have:=this.2.2;omega⟩⟩)
      generalize done.getD K []=rows at *
      have l4:=HEA.out.rr
      rw [hvr]at l4
      obtain⟨L,hL⟩ : ∃z,z=done.length:=⟨_,rfl⟩
      rw [←hL]at l4 hK hKd
      have SK:=Lib.hid sK
      have em:(L:Int) - 1=(K:Int):=by omega
      have hKL:(K:Int)<(L:Int):=by omega
      have hKL2:K<L:=by omega
      have hK40:K≤40:=by have:=HDL.out;omega
      have e4:=cell_lt l4
      have e6:=cell_lt gK
      clear hin2 hvr hn6 sK hr4 hrf hmem hK hL
      go_wp2_with fail
      refine wp_tailQ 12 mixedA (by kernel_rfl) _ rfl ?_
      simp only [List.take_succ_cons,List.take_zero,List.drop_succ_cons,List.drop_zero]
      repeat (go_big_quiet_step (fail))
      refine wpQuiet_nil ?_
      go_wp2_with fail
      refine(sort_rows _ rows _ (SK.out.ext ((on_sub _ _).trans (Ext.refl wr).drew.full)) HFT.out).mono ?_
      rintro e w7 ⟨v7,rfl,s7,x7⟩
      have S7:=Lib.hid (s7.ext (on_sub _ _))
      have HF7:=Lib.hid (show Ext w w7 from HX2.out.trans (HXX.out.1.trans ((Ext.refl wr).drew.trans x7)))
      obtain⟨p7,c7,rfl,-⟩:=s7.form
      obtain⟨n7,hn7⟩ : ∃z,z=(sortBy cmpRow rows).length:=⟨_,rfl⟩
      rw [←hn7]at S7 ⊢
      clear s7 x7 hn7 l4 e4 gK e6
      go_wp2_with fail
      exact bodyPost_ret (v:= .tuple #[.slice p7 n7 c7,.int .i64 0]) (by simp [results,Tryz.results21,go_sem]) rfl ⟨_,by rw [HR.out],by rw [HR.out];exact S7.out,HF7.out⟩
   ·have z0:(R != 0)=true:=by simp [r0]
    have HR2:=Lib.hid (HEV.out.trans (if_pos r0))
    clear r0 hok h64 hev hfr s2 hR hcols x2
    go_wp2_with fail
    exact bodyPost_ret (v:= .tuple #[.slice none 0 0,.int .i64 R]) (by simp [results,Tryz.results21,go_sem]) rfl ⟨_,by rw [HR2.out],by rw [HR2.out];exact SliceOf.nil _ _,HX2.out⟩
end Go.Proofs.YtombmdaohcjokaaGreatDoor
namespace Go.Proofs.YtombmdaohcjokaaGreatDoor
open Go.RowKit
def typesA:List TypI:= [⟨⟨#[114]⟩,[1,2]⟩,⟨⟨#[115]⟩,[1,2]⟩]
def dbA (A B:List Row):List TabI:= [⟨⟨⟨#[114]⟩,[1,2]⟩,A⟩,⟨⟨⟨#[115]⟩,[1,2]⟩,B⟩]
theorem dbA_typ (A B:List Row):(dbA A B).map TabI.typ=typesA:=rfl
set_option maxRecDepth 100000 in
set_option maxHeartbeats 400000 in
theorem types_any (w:World):Calls Tryz.prog 27 #[] w fun e w'=> ∃v,e = .returned v∧SliceOf Rep.typ w'.cell? v typesA∧Ext w w':=by
 go_enter Tryz.func27,Tryz.ntmps27
 go_wp2_with fail
 refine(kinds_own (fun _=>True) _).mono ?_
 rintro e w1 ⟨g1,rfl,o1,x1⟩
 have K1:=Lib.hid o1.slice
 have X1:=Lib.hid x1
 clear o1 x1
 go_wp2_with fail
 refine(kinds_own (fun _=>True) _).mono ?_
 rintro e w2 ⟨g2,rfl,o2,x2⟩
 have hx:=x2.alloc (.cells #[.string ⟨#[114]⟩,.slice (some ⟨g1,0,none⟩) 2 2,.string ⟨#[115]⟩,.slice (some ⟨g2,0,none⟩) 2 2] 39)
 have hx2:=(Ext.refl w2).alloc (.cells #[.string ⟨#[114]⟩,.slice (some ⟨g1,0,none⟩) 2 2,.string ⟨#[115]⟩,.slice (some ⟨g2,0,none⟩) 2 2] 39)
 have k:SliceOf Rep.typ (w2.alloc (.cells #[.string ⟨#[114]⟩,.slice (some ⟨g1,0,none⟩) 2 2,.string ⟨#[115]⟩,.slice (some ⟨g2,0,none⟩) 2 2] 39)).cell? (.slice (some ⟨w2.heap.size,0,none⟩) 2 2) typesA :=
  slice_lit Rep.typ w2 [.string ⟨#[114]⟩,.slice (some ⟨g1,0,none⟩) 2 2,.string ⟨#[115]⟩,.slice (some ⟨g2,0,none⟩) 2 2] 39 [[.string ⟨#[114]⟩,.slice (some ⟨g1,0,none⟩) 2 2],[.string ⟨#[115]⟩,.slice (some ⟨g2,0,none⟩) 2 2]] typesA rfl
   ⟨⟨_,rfl,K1.out.ext hx.full,by decide⟩,⟨_,rfl,o2.slice.ext hx2.full,by decide⟩,trivial⟩ (by simp [maxLen,typesA])
 clear o2
 have XX:=Lib.hid (X1.out.trans hx)
 have KK:=Lib.hid k
 clear k hx hx2 x2
 go_wp2_with fail
 go_ret
 exact⟨_,rfl,KK.out,XX.out⟩
set_option maxRecDepth 100000 in
set_option maxHeartbeats 400000 in
theorem rowdb_any (va vb:Value) (A B:List Row) (w:World) (ha:SliceOf Rep.row w.cell? va A) (hb:SliceOf Rep.row w.cell? vb B) :
  Calls Tryz.prog 25 #[va,vb] w fun e w'=> ∃v,e = .returned v∧SliceOf Rep.tab w'.cell? v (dbA A B)∧Ext w w':=by
 have HA:=Lib.hid ha
 have HB:=Lib.hid hb
 obtain⟨pa,ca,rfl,_⟩:=ha.form
 obtain⟨pb,cb,rfl,_⟩:=hb.form
 clear ha hb
 obtain⟨na,hna⟩ : ∃z,z=A.length:=⟨_,rfl⟩
 obtain⟨nb,hnb⟩ : ∃z,z=B.length:=⟨_,rfl⟩
 rw [←hna]at HA ⊢
 rw [←hnb]at HB ⊢
 clear hna hnb
 go_enter Tryz.func25,Tryz.ntmps25
 go_wp2_with fail
 refine(types_any _).mono ?_
 rintro e w1 ⟨u1,rfl,t1,x1⟩
 obtain⟨p1,c1,rfl,_,_,h1⟩:=t1.form
 obtain⟨b1,o1,rfl⟩:=h1 (by decide) (by simp [typesA])
 obtain⟨k0,d0,d1,K0,_⟩:=typ_at t1 0 (by simp [typesA])
 obtain⟨k1,d2,d3,K1,_⟩:=typ_at t1 1 (by simp [typesA])
 have hl:typesA.length=2:=rfl
 rw [hl]
 have X1:=Lib.hid x1
 have A1:=Lib.hid (HA.out.ext x1.full)
 have B1:=Lib.hid (HB.out.ext x1.full)
 have K0H:=Lib.hid K0
 have K1H:=Lib.hid K1
 obtain⟨q0,r0,rfl,_⟩:=K0.form
 obtain⟨q1,r1,rfl,_⟩:=K1.form
 clear t1 h1 K0 K1 x1 HA HB
 simp only [typesA,List.getElem_cons_zero,List.getElem_cons_succ,Nat.zero_mul,Nat.add_zero,List.length_cons,List.length_nil,Nat.one_mul]at d0 d1 d2 d3 K0H K1H
 have e0:=cell_lt d0
 have mixed:=mixedA
 have hx:=(Ext.refl w1).drew.alloc (.cells #[.string ⟨#[114]⟩,.slice q0 2 r0,.slice pa na ca,.string ⟨#[115]⟩,.slice q1 2 r1,.slice pb nb cb] 42)
 have k:SliceOf Rep.tab (w1.drew.alloc (.cells #[.string ⟨#[114]⟩,.slice q0 2 r0,.slice pa na ca,.string ⟨#[115]⟩,.slice q1 2 r1,.slice pb nb cb] 42)).cell? (.slice (some ⟨w1.drew.heap.size,0,none⟩) 2 2) (dbA A B) :=
  slice_lit Rep.tab w1.drew [.string ⟨#[114]⟩,.slice q0 2 r0,.slice pa na ca,.string ⟨#[115]⟩,.slice q1 2 r1,.slice pb nb cb] 42 [[.string ⟨#[114]⟩,.slice q0 2 r0,.slice pa na ca],[.string ⟨#[115]⟩,.slice q1 2 r1,.slice pb nb cb]] (dbA A B) rfl
   ⟨⟨_,_,rfl,K0H.out.ext hx.full,A1.out.ext hx.full,(show (⟨#[114]⟩:ByteArray).size≤maxLen by decide)⟩,⟨_,_,rfl,K1H.out.ext hx.full,B1.out.ext hx.full,(show (⟨#[115]⟩:ByteArray).size≤maxLen by decide)⟩,trivial⟩ (by simp [maxLen,dbA])
 have KK:=Lib.hid k
 have XX:=Lib.hid (X1.out.trans hx)
 clear k hx mixed
 go_wp2_with fail
 refine wp_tailQ 10 mixedA (by kernel_rfl) _ rfl ?_
 simp only [List.take_succ_cons,List.take_zero,List.drop_succ_cons,List.drop_zero]
 repeat (go_big_quiet_step (fail))
 refine wpQuiet_nil ?_
 go_wp2_with fail
 go_ret
 exact⟨_,rfl,KK.out,XX.out⟩
end Go.Proofs.YtombmdaohcjokaaGreatDoor
namespace Go.Proofs.YtombmdaohcjokaaGreatDoor
open Go.RowKit
theorem evalUpto_take (q:QueryI) (db:List TabI) (cols:List (List Int)) {n i:Nat} (hi:i≤n) (h:(evalUpto q db cols n).2=0):evalUpto q db cols i=((evalUpto q db cols n).1.take i,0):=by
 induction n with
 |zero=>rw [show i=0 by omega];rfl
 |succ n ih =>
  by_cases hin:i=n+1
  ·rw [hin,List.take_of_length_le (Nat.le_of_eq (evalUpto_len q db cols (n+1) h))]
   exact Prod.ext rfl h
  ·have hn:(evalUpto q db cols n).2=0:=by
    by_cases hz:(evalUpto q db cols n).2=0
    ·exact hz
    ·unfold evalUpto at h
     rw [if_pos hz]at h
     exact absurd h hz
   rw [ih (by omega) hn]
   have hl:=evalUpto_len q db cols n hn
   have hs:(evalUpto q db cols (n+1)).1=(evalUpto q db cols n).1 ++ [nodeP q.exprs db cols (evalUpto q db cols n).1 q.nodes[n]!]:=by
    have e:evalUpto q db cols (n+1)=if (evalUpto q db cols n).2≠0 then([],(evalUpto q db cols n).2)else if 4096<(nodeP q.exprs db cols (evalUpto q db cols n).1 q.nodes[n]!).length then([],12)else((evalUpto q db cols n).1 ++ [nodeP q.exprs db cols (evalUpto q db cols n).1 q.nodes[n]!],0):=rfl
    rw [e]at h ⊢
    rw [if_neg (by simpa using hn)]at h ⊢
    split at h
    ·cases h
    ·rename_i h2
     rw [if_neg h2]
   rw [hs,List.take_append_of_le_length (by omega)]
theorem fitRun_ok (q:QueryI) (db:List TabI) (h:(evalUpto q db (columnsQ q (db.map TabI.typ)).1 q.nodes.length).2=0) (hf : ∀l∈(evalUpto q db (columnsQ q (db.map TabI.typ)).1 q.nodes.length).1,∀r∈l,fitE r):FitRun q db:=by
 intro i hi l hl
 rw [evalUpto_take q db _ hi h]at hl
 exact hf l (List.mem_of_mem_take hl)
def qA1:QueryI:=⟨[⟨1,0,0,0,⟨#[114]⟩,[],[]⟩,⟨10,0,0,0,⟨#[]⟩,[],[⟨1,0⟩]⟩],[]⟩
def qA2:QueryI:=⟨[⟨1,0,0,0,⟨#[114]⟩,[],[]⟩,⟨1,0,0,0,⟨#[115]⟩,[],[]⟩,⟨5,0,1,0,⟨#[]⟩,[],[]⟩],[⟨1,0,0,0,⟨3,1,⟨#[]⟩⟩⟩]⟩
theorem colsA1:columnsQ qA1 typesA=([[1,2],[1]],0):=by kernel_rfl
theorem colsA2:columnsQ qA2 typesA=([[1,2],[1,2],[1,2,1,2]],0):=by kernel_rfl
theorem checkA2:checkQ qA2 []=([],8):=by kernel_rfl
theorem scan_r (A B:List Row):scanP (dbA A B) ⟨#[114]⟩=A:=by
 unfold dbA
 rw [scanP_cons,if_pos rfl]
theorem scan_s (A B:List Row):scanP (dbA A B) ⟨#[115]⟩=B:=by
 unfold dbA
 rw [scanP_cons,if_neg (show ¬(⟨#[114]⟩:ByteArray)=⟨#[115]⟩by decide),scanP_cons,if_pos rfl]
theorem eval_step (q:QueryI) (db:List TabI) (cols:List (List Int)) (i:Nat) {ls:List (List Row)} {l:List Row} (h:evalUpto q db cols i=(ls,0)) (hn:nodeP q.exprs db cols ls q.nodes[i]! = l) (hl:l.length≤4096):evalUpto q db cols (i+1)=(ls ++ [l],0):=by
 unfold evalUpto
 rw [h,if_neg (by simp),hn,if_neg (by omega)]
theorem evalQ_ok (q:QueryI) (db:List TabI) {cols:List (List Int)} {ls:List (List Row)} (hc:columnsQ q (db.map TabI.typ)=(cols,0)) (h:evalUpto q db cols q.nodes.length=(ls,0)):evalQ q db=(sortBy cmpRow (ls.getLastD []),0):=by
 unfold evalQ
 rw [hc,if_neg (by simp)]
 dsimp only
 rw [h,if_neg (by simp)]
theorem runA1:evalUpto qA1 (dbA [] []) [[1,2],[1]] 2=([[],[⟨[intVal 0],[]⟩]],0):=by
 refine eval_step qA1 (dbA [] []) _ 1 (eval_step qA1 (dbA [] []) _ 0 (ls:= []) (l:= []) rfl (scan_r [] []) (by simp)) ?_ (by simp)
 show groupP [] [] [⟨1,0⟩] []=_
 unfold groupP
 rw [if_pos (show ([]:List Int).length=0 from rfl)]
 show [gRowS _ [] []]=_
 unfold gRowS
 rw [show ([]:List Row).flatMap Row.lin = []from rfl,show mergeL [] [] = []from asc_unique (mergeL_law _ _).1 (by decide) fun x=>by rw [(mergeL_law _ _).2];simp]
 rfl
theorem evalA1:evalQ qA1 (dbA [] [])=([⟨[intVal 0],[]⟩],0):=by
 rw [evalQ_ok qA1 (dbA [] []) colsA1 runA1]
 exact Prod.ext (sortBy_short _ _ (by simp)) rfl
theorem fitA1:FitRun qA1 (dbA [] []):=by
 have hc:(columnsQ qA1 ((dbA [] []).map TabI.typ)).1 = [[1,2],[1]]:=by rw [dbA_typ,colsA1]
 refine fitRun_ok _ _ ?_ ?_
 ·rw [hc,show qA1.nodes.length=2 from rfl,runA1]
 ·rw [hc,show qA1.nodes.length=2 from rfl,runA1]
  intro l hl r hr
  simp only [List.mem_cons,List.not_mem_nil,or_false]at hl
  rcases hl with rfl | rfl
  ·cases hr
  ·rw [List.mem_singleton]at hr
   subst hr
   refine⟨by simp,?_,by simp⟩
   intro x hx
   rw [List.mem_singleton]at hx
   subst hx
   exact Nat.zero_le _
theorem awkL (g:List Val):snapLeft (trE qA2.exprs 0) 2 [⟨g,[7]⟩] [] = [⟨g ++ [nV,nV],[7]⟩]:=by
 unfold snapLeft
 rw [List.flatMap_cons,List.flatMap_nil,List.append_nil]
 rfl
theorem runA2 (g:List Val):evalUpto qA2 (dbA [⟨g,[7]⟩] []) [[1,2],[1,2],[1,2,1,2]] 3=([[⟨g,[7]⟩],[],[⟨g ++ [nV,nV],[7]⟩]],0):=by
 refine eval_step qA2 _ _ 2 (eval_step qA2 _ _ 1 (eval_step qA2 (dbA [⟨g,[7]⟩] []) _ 0 (ls:= []) (l:= [⟨g,[7]⟩]) rfl (scan_r [⟨g,[7]⟩] []) (by simp)) (scan_s [⟨g,[7]⟩] []) (by simp)) ?_ (by simp)
 exact awkL g
theorem evalA2 (g:List Val):evalQ qA2 (dbA [⟨g,[7]⟩] [])=([⟨g ++ [nV,nV],[7]⟩],0):=by
 rw [evalQ_ok qA2 (dbA [⟨g,[7]⟩] []) colsA2 (runA2 g)]
 exact Prod.ext (sortBy_short _ _ (by simp)) rfl
theorem fitA2 (g:List Val) (hg:g.length≤900∧ ∀z∈g,z.s.size≤1048576):FitRun qA2 (dbA [⟨g,[7]⟩] []):=by
 have hc:(columnsQ qA2 ((dbA [⟨g,[7]⟩] []).map TabI.typ)).1 = [[1,2],[1,2],[1,2,1,2]]:=by rw [dbA_typ,colsA2]
 refine fitRun_ok _ _ ?_ ?_
 ·rw [hc,show qA2.nodes.length=3 from rfl,runA2]
 ·rw [hc,show qA2.nodes.length=3 from rfl,runA2]
  intro l hl r hr
  simp only [List.mem_cons,List.not_mem_nil,or_false]at hl
  rcases hl with rfl | rfl | rfl
  ·rw [List.mem_singleton]at hr
   subst hr
   exact⟨by dsimp only;omega,hg.2,by simp⟩
  ·cases hr
  ·rw [List.mem_singleton]at hr
   subst hr
   refine⟨by simp;omega,?_,by simp⟩
   intro x hx
   rcases List.mem_append.1 hx with hx | hx
   ·exact hg.2 x hx
   ·simp only [List.mem_cons,List.not_mem_nil,or_false]at hx
    rcases hx with rfl | rfl <;> exact Nat.zero_le _
theorem fitQA1:FitQ qA1:=by
 refine⟨fun e he=>(List.not_mem_nil he).elim,fun x hx=> ?_⟩
 simp only [qA1,List.mem_cons,List.not_mem_nil,or_false]at hx
 rcases hx with rfl | rfl <;> simp
theorem fitQA2:FitQ qA2:=by
 refine⟨fun e he=> ?_,fun x hx=> ?_⟩
 ·simp only [qA2,List.mem_cons,List.not_mem_nil,or_false]at he
  subst he
  exact Nat.zero_le _
 ·simp only [qA2,List.mem_cons,List.not_mem_nil,or_false]at hx
  rcases hx with rfl | rfl | rfl <;> simp
end Go.Proofs.YtombmdaohcjokaaGreatDoor
namespace Go.Proofs.YtombmdaohcjokaaGreatDoor
open Go.RowKit
structure LinP (ids:List Int) (L:List Int→Prop):Prop where
 mem : ∀l,L l→ ∀x∈l,x∈ids
 make : ∀l:List Int,l.Pairwise (· < ·)→(∀x∈l,x∈ids)→L l
def rowP (L:List Int→Prop) (n:Nat) (r:Row):Prop:=r.vals.length≤n∧(∀v∈r.vals,v.s.size≤1048576)∧L r.lin
theorem rowP.wide {L:List Int→Prop} {n m:Nat} {r:Row} (h:rowP L n r) (k:n≤m):rowP L m r:=⟨Nat.le_trans h.1 k,h.2⟩
theorem LinP.merge {ids:List Int} {L:List Int→Prop} (H:LinP ids L) {a b:List Int} (ha : ∀x∈a,x∈ids) (hb : ∀x∈b,x∈ids):L (mergeL a b) :=
 H.make _ (mergeL_law a b).1 fun x hx=>((mergeL_law a b).2 x |>.1 hx).elim (ha x) (hb x)
theorem LinP.linS {ids:List Int} {L:List Int→Prop} (H:LinP ids L) {S:List Row} (h : ∀r∈S,L r.lin):L (linS S) :=
 H.merge (fun x hx=>by obtain⟨r,hr,k⟩:=List.mem_flatMap.1 hx;exact H.mem _ (h r hr) x k) (fun x hx=>by cases hx)
theorem fit_aggP {es:List ExprI} (he : ∀x∈es,fitV x.c) {vss:List (List Val)} (h : ∀vs∈vss,∀v∈vs,v.s.size≤1048576) (kind arg:Int):(aggE es kind arg vss).s.size≤1048576:=by
 have hn : ∀v∈argsG es arg vss,v.s.size≤1048576:=fun v hv=>by
  obtain⟨vs,h1,rfl⟩:=List.mem_map.1 (List.mem_filter.1 hv).1
  exact fit_evalE he (h vs h1) _
 unfold aggE
 split
 ·exact Nat.zero_le _
 split
 ·unfold sumV;split
  ·exact Nat.zero_le _
  ·exact Nat.zero_le _
 split
 ·split
  ·exact Nat.zero_le _
  ·rename_i hne;exact hn _ (pickMin_law hne).1
 split
 ·split
  ·exact Nat.zero_le _
  ·rename_i hne;exact hn _ (pickMax_mem hne)
 split <;> exact Nat.zero_le _
section
open Classical
variable {ids:List Int} {L:List Int→Prop}
theorem rows_proj {es:List ExprI} (he : ∀x∈es,fitV x.c) (ks:List Int) {A:List Row} {n:Nat} (h : ∀r∈A,rowP L n r) : ∀r∈A.map (fun r=>(⟨projE es ks r.vals,r.lin⟩:Row)),rowP L ks.length r:=by
 intro r hr
 obtain⟨y,hy,rfl⟩:=List.mem_map.1 hr
 refine⟨by show (ks.map _).length≤_;rw [List.length_map];exact Nat.le_refl _,fun v hv=> ?_,(h y hy).2.2⟩
 obtain⟨k,_,rfl⟩:=List.mem_map.1 (show v∈ks.map _ from hv)
 exact fit_evalE he (h y hy).2.1 _
theorem rows_join (H:LinP ids L) (tr:List Val→Bool) {A B:List Row} {n m:Nat} (ha : ∀r∈A,rowP L n r) (hb : ∀r∈B,rowP L m r) : ∀r∈snapJoin tr A B,rowP L (n+m) r:=by
 intro r hr
 obtain⟨x,hx,hr⟩:=List.mem_flatMap.1 hr
 obtain⟨y,hy,rfl⟩:=List.mem_map.1 (List.mem_filter.1 hr).1
 refine⟨?_,fun v hv=> ?_,H.merge (H.mem _ (ha x hx).2.2) (H.mem _ (hb y hy).2.2)⟩
 ·show (x.vals++y.vals).length≤_
  rw [List.length_append]
  have:=(ha x hx).1
  have:=(hb y hy).1
  omega
 ·rcases List.mem_append.1 (show v∈x.vals++y.vals from hv)with hv | hv
  ·exact(ha x hx).2.1 v hv
  ·exact(hb y hy).2.1 v hv
theorem rows_left (H:LinP ids L) (tr:List Val→Bool) (W:Nat) {A B:List Row} {n m k:Nat} (ha : ∀r∈A,rowP L n r) (hb : ∀r∈B,rowP L m r) (h1:n+m≤k) (h2:n+W≤k) : ∀r∈snapLeft tr W A B,rowP L k r:=by
 intro r hr
 obtain⟨x,hx,hr⟩:=List.mem_flatMap.1 hr
 rcases List.mem_append.1 hr with hr | hr
 ·exact(rows_join H tr ha hb r (List.mem_flatMap.2 ⟨x,hx,hr⟩)).wide h1
 ·unfold padOf at hr
  split at hr
  ·rw [List.mem_singleton.1 hr]
   refine⟨?_,fun v hv=> ?_,(ha x hx).2.2⟩
   ·show (x.vals++List.replicate W nV).length≤_
    rw [List.length_append,List.length_replicate]
    have:=(ha x hx).1
    omega
   ·rcases List.mem_append.1 (show v∈x.vals++List.replicate W nV from hv)with hv | hv
    ·exact(ha x hx).2.1 v hv
    ·rw [List.eq_of_mem_replicate hv];exact Nat.zero_le _
  ·cases hr
theorem rows_key {A:List Row} {n:Nat} (ha : ∀r∈A,rowP L n r) {kv:List Val} (h:kv∈firsts (A.map Row.vals)):kv.length≤n∧ ∀v∈kv,v.s.size≤1048576:=by
 rw [(firsts_law _).2]at h
 obtain⟨x,hx,rfl⟩:=List.mem_map.1 h
 exact⟨(ha x hx).1,(ha x hx).2.1⟩
theorem rows_dist (H:LinP ids L) {A:List Row} {n:Nat} (ha : ∀r∈A,rowP L n r) : ∀r∈distP A,rowP L n r:=by
 intro r hr
 obtain⟨kv,hk,rfl⟩:=List.mem_map.1 hr
 have h:=rows_key ha hk
 exact⟨h.1,h.2,H.linS fun x hx=>(ha x (List.mem_filter.1 hx).1).2.2⟩
theorem rows_set (H:LinP ids L) (kind:Int) {A B:List Row} {n m:Nat} (ha : ∀r∈A,rowP L n r) (hb : ∀r∈B,rowP L m r) : ∀r∈setP kind A B,rowP L n r:=by
 intro r hr
 obtain⟨kv,hk,hr⟩:=List.mem_flatMap.1 hr
 have h:=rows_key ha hk
 rw [List.eq_of_mem_replicate (show r∈List.replicate _ _ from hr)]
 refine⟨h.1,h.2,H.linS fun x hx=> ?_⟩
 rcases List.mem_append.1 hx with hx | hx
 ·exact(ha x (List.mem_filter.1 hx).1).2.2
 ·exact(hb x (List.mem_filter.1 hx).1).2.2
theorem rows_group (H:LinP ids L) {es:List ExprI} (he : ∀x∈es,fitV x.c) (keys:List Int) (aggs:List AggI) {A:List Row} {n:Nat} (ha : ∀r∈A,rowP L n r) : ∀r∈groupP es keys aggs A,rowP L (keys.length+aggs.length) r:=by
 intro r hr
 obtain⟨kv,hk,rfl⟩:=List.mem_map.1 hr
 have hkv:kv.length≤keys.length∧ ∀v∈kv,v.s.size≤1048576:=by
  by_cases c:keys.length=0
  ·rw [if_pos c,List.mem_singleton]at hk
   subst hk
   exact⟨Nat.zero_le _,fun v hv=>by cases hv⟩
  ·rw [if_neg c,(firsts_law _).2]at hk
   obtain⟨x,hx,rfl⟩:=List.mem_map.1 hk
   refine⟨by show (keys.map _).length≤_;rw [List.length_map];exact Nat.le_refl _,fun v hv=> ?_⟩
   obtain⟨k,_,rfl⟩:=List.mem_map.1 (show v∈keys.map _ from hv)
   exact fit_evalE he (ha x hx).2.1 _
 refine⟨?_,fun v hv=> ?_,?_⟩
 ·show (kv++aggsE es aggs _).length≤_
  rw [List.length_append]
  unfold aggsE
  rw [List.length_map]
  omega
 ·rcases List.mem_append.1 (show v∈kv++aggsE es aggs _ from hv)with hv | hv
  ·exact hkv.2 v hv
  ·obtain⟨g,_,rfl⟩:=List.mem_map.1 (show v∈aggs.map _ from hv)
   refine fit_aggP he (fun vs hvs=> ?_) _ _
   obtain⟨x,hx,rfl⟩:=List.mem_map.1 hvs
   exact(ha x (List.mem_filter.1 hx).1).2.1
 ·exact H.linS (S:=selS (projE es keys) A kv) fun x hx=>(ha x (List.mem_filter.1 hx).1).2.2
def wideN (cols:List (List Int)) (w:Nat→Nat) (x:NodeI) (m:Nat):Prop :=
 ((x.kind=2∨x.kind=6∨x.kind=7∨x.kind=8∨x.kind=9)→w x.a.toNat≤m)∧(x.kind=6→w x.b.toNat≤m)∧(x.kind=3→x.exprs.length≤m)∧((x.kind=4∨x.kind=5)→w x.a.toNat+w x.b.toNat≤m)∧(x.kind=5→w x.a.toNat+(cols.getD x.b.toNat []).length≤m)∧(x.kind=10→x.exprs.length+x.aggs.length≤m)
theorem node_rows (H:LinP ids L) {es:List ExprI} (he : ∀x∈es,fitV x.c) (db:List TabI) (cols:List (List Int)) (done:List (List Row)) (w:Nat→Nat) (m:Nat) (x:NodeI) (hk:1≤x.kind∧x.kind≤10) (hd : ∀j,∀r∈done.getD j [],rowP L (w j) r)
  (hs:x.kind=1→ ∀r∈scanP db x.table,rowP L m r) (hw:wideN cols w x m) : ∀r∈nodeP es db cols done x,rowP L m r:=by
 obtain⟨w1,w2,w3,w4,w5,w6⟩:=hw
 have ha:=hd x.a.toNat
 have hb:=hd x.b.toNat
 unfold nodeP
 split
 ·rename_i c;exact hs c
 split
 ·rename_i c
  intro r hr
  exact(ha r (List.mem_filter.1 hr).1).wide (w1 (by omega))
 split
 ·rename_i c
  intro r hr
  exact(rows_proj he x.exprs ha r hr).wide (w3 c)
 split
 ·rename_i c
  intro r hr
  exact(rows_join H _ ha hb r hr).wide (w4 (by omega))
 split
 ·rename_i c
  exact rows_left H _ _ ha hb (w4 (by omega)) (w5 c)
 split
 ·rename_i c
  intro r hr
  rcases List.mem_append.1 hr with hr | hr
  ·exact(ha r hr).wide (w1 (by omega))
  ·exact(hb r hr).wide (w2 c)
 split
 ·rename_i c
  intro r hr
  exact(rows_set H _ ha hb r hr).wide (w1 (by omega))
 split
 ·rename_i c
  intro r hr
  exact(rows_dist H ha r hr).wide (w1 (by omega))
 ·intro r hr
  exact(rows_group H he x.exprs x.aggs ha r hr).wide (w6 (by omega))
theorem getD_snoc {α:Type} (l:List (List α)) (a:List α) (j:Nat):(l ++ [a]).getD j []=if j=l.length then a else l.getD j []:=by
 rw [List.getD_eq_getElem?_getD,List.getD_eq_getElem?_getD]
 by_cases c:j<l.length
 ·rw [List.getElem?_append_left c,if_neg (by omega)]
 ·by_cases e:j=l.length
  ·subst e
   rw [List.getElem?_append_right (Nat.le_refl _),if_pos rfl,Nat.sub_self]
   rfl
  ·rw [if_neg e,List.getElem?_eq_none (by rw [List.length_append,List.length_singleton];omega),List.getElem?_eq_none (by omega)]
theorem upto_rows (H:LinP ids L) (q:QueryI) (he : ∀x∈q.exprs,fitV x.c) (db:List TabI) (cols:List (List Int)) (w:Nat→Nat)
  (hn : ∀i,i<q.nodes.length→(1≤q.nodes[i]!.kind∧q.nodes[i]!.kind≤10)∧(q.nodes[i]!.kind=1→ ∀r∈scanP db q.nodes[i]!.table,rowP L (w i) r)∧wideN cols w q.nodes[i]! (w i)) : ∀i,i≤q.nodes.length→ ∀j,∀r∈(evalUpto q db cols i).1.getD j [],rowP L (w j) r:=by
 intro i
 induction i with
 |zero =>
  intro _ j r hr
  cases j <;> cases hr
 |succ i ih =>
  intro hi
  have h1:=ih (by omega)
  obtain⟨k1,k2,k3⟩:=hn i (by omega)
  by_cases c:(evalUpto q db cols i).2=0
  ·have hl:=evalUpto_len q db cols i c
   unfold evalUpto
   rw [if_neg (by simpa using c)]
   split
   ·intro j r hr
    cases j <;> cases hr
   ·intro j r hr
    rw [getD_snoc]at hr
    split at hr
    ·rename_i e
     rw [e,hl]
     exact node_rows H he db cols _ w (w i) _ k1 h1 k2 k3 r hr
    ·exact h1 j r hr
  ·unfold evalUpto
   rw [if_pos c]
   intro j r hr
   cases j <;> cases hr
theorem run_fit (H:LinP ids L) (hL : ∀l,L l→l.length≤1000) (q:QueryI) (he : ∀x∈q.exprs,fitV x.c) (db:List TabI) (w:Nat→Nat) (hw : ∀i,w i≤1000)
  (hn : ∀i,i<q.nodes.length→(1≤q.nodes[i]!.kind∧q.nodes[i]!.kind≤10)∧(q.nodes[i]!.kind=1→ ∀r∈scanP db q.nodes[i]!.table,rowP L (w i) r)∧wideN (columnsQ q (db.map TabI.typ)).1 w q.nodes[i]! (w i)):FitRun q db:=by
 intro i hi l hl r hr
 obtain⟨j,hj,e⟩:=List.mem_iff_getElem.1 hl
 have h:=upto_rows H q he db _ w hn i hi j r (by rw [List.getD_eq_getElem?_getD,List.getElem?_eq_getElem hj,Option.getD_some,e];exact hr)
 exact⟨Nat.le_trans h.1 (hw j),h.2.1,hL _ h.2.2⟩
theorem eval_rows (H:LinP ids L) (q:QueryI) (he : ∀x∈q.exprs,fitV x.c) (db:List TabI) (w:Nat→Nat)
  (hn : ∀i,i<q.nodes.length→(1≤q.nodes[i]!.kind∧q.nodes[i]!.kind≤10)∧(q.nodes[i]!.kind=1→ ∀r∈scanP db q.nodes[i]!.table,rowP L (w i) r)∧wideN (columnsQ q (db.map TabI.typ)).1 w q.nodes[i]! (w i)) : ∀r∈(evalQ q db).1,rowP L (w (q.nodes.length - 1)) r:=by
 intro r hr
 unfold evalQ at hr
 split at hr
 ·cases hr
 split at hr
 ·cases hr
 ·rename_i c1 c2
  have hz:=evalUpto_len q db (columnsQ q (db.map TabI.typ)).1 q.nodes.length (Decidable.not_not.1 c2)
  have h:=(sortBy_perm _ _).mem_iff.1 hr
  refine upto_rows H q he db _ w hn q.nodes.length (Nat.le_refl _) (q.nodes.length - 1) r ?_
  rw [List.getLastD_eq_getLast?,List.getLast?_eq_getElem?,hz]at h
  rwa [List.getD_eq_getElem?_getD]
end
end Go.Proofs.YtombmdaohcjokaaGreatDoor
