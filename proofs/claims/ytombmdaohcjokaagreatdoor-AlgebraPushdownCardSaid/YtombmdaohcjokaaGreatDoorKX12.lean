/- joined texts of a proof: DepthX, NormA, EvaB, EvaC, ShelfF, ConcR, AlgD -/
import Derived.Test.YtombmdaohcjokaaGreatDoorKX03
import Derived.Test.YtombmdaohcjokaaGreatDoorKX11
import Derived.Maps.Own
import Derived.Maps.OwnOps
import Derived.Maps.RangeWalk
import Derived.Maps.Views
import Derived.Test.YtombmdaohcjokaaGreatDoorKX10
import Derived.Deep.DeepCutAuto
import Derived.Shelf.Spec.SlicesGrow
import Derived.Ground.Names8Prog
import Derived.Test.YtombmdaohcjokaaGreatDoorProg
import Derived.Test.YtombmdaohcjokaaGreatDoorKX02
import Derived.Test.YtombmdaohcjokaaGreatDoorKX09
namespace Go.Proofs.YtombmdaohcjokaaGreatDoor
open Go.RowKit Go.Maps
def stepEnc (s:StepI):List Value:= [.int .i64 s.from_,.int .i64 s.to_,.int .i64 1,.int .i64 s.n,.string ByteArray.empty]
def Rep.step:Rep StepI where
 size:=5
 holds _ cs x:=cs=stepEnc x∧okI x.from_∧okI x.to_∧okI x.n
 len:=by rintro w cs x ⟨rfl,_⟩;rfl
 ext:=by rintro w w' cs x h _;exact h
 one:=by rintro w cs x ⟨rfl,_⟩;simp [stepEnc,Value.oneCell']
structure MapIs (D:DataW Unit) (l:List Tup):Prop where
 map:IsMap D
 val : ∀x,D.atKey (.int .i64 x) (.lit (.int .i64 0)) = .lit (.int .i64 (chg l x))
 has : ∀x,Maps.has D (.int .i64 x)=true↔x∈bnd l
def ColI (D:DataW Unit) (left:Lit→Bool) (ss:List Int):Prop:=ss.Nodup∧ ∀x,x∈ss↔(Maps.has D (.int .i64 x)=true∧left (.int .i64 x)=false)
end Go.Proofs.YtombmdaohcjokaaGreatDoor
namespace Go.Proofs.YtombmdaohcjokaaGreatDoor
open Go.RowKit Go.Maps
def fDep (l:List Tup) (i:Nat):Int:=cntAt l (pts l)[i]!
theorem depthOf_eq (l:List Tup):depthOf l=stepsOf (pts l) (fDep l) ((pts l).length - 1):=rfl
end Go.Proofs.YtombmdaohcjokaaGreatDoor
namespace Go.Proofs.YtombmdaohcjokaaGreatDoor
open Go.RowKit Go.Shelf Go.Sort
def cmpPer (x y:Per):Int:=cmpI x.from_ y.from_
def okPer (p:Per):Bool:=validB p.from_ p.to_
theorem alloc_size (w:World) (o:Obj):(w.alloc o).heap.size=w.heap.size+1:=by simp
def perOf (t:Tup):Per:=⟨t.from_,t.to_⟩
end Go.Proofs.YtombmdaohcjokaaGreatDoor
namespace Go.Proofs.YtombmdaohcjokaaGreatDoor
open Go.RowKit Go.Maps Go.Deep
theorem flatLin_take (rows:List Row) (k:Nat) (h:k<rows.length):(rows.take (k+1)).flatMap Row.lin=(rows.take k).flatMap Row.lin++rows[k].lin:=by
 rw [List.take_succ_eq_append_getElem h,List.flatMap_append,List.flatMap_cons,List.flatMap_nil,List.append_nil]
theorem flatLin_len {rows:List Row} (h : ∀r∈rows,r.lin.length≤1000):(rows.flatMap Row.lin).length≤1000*rows.length:=by
 induction rows with
 |nil=>simp
 |cons r rows ih =>
  rw [List.flatMap_cons,List.length_append,List.length_cons]
  have h1:=h r (List.mem_cons_self ..)
  have h2:=ih fun x hx=>h x (List.mem_cons_of_mem _ hx)
  omega
set_option maxRecDepth 100000 in
set_option maxHeartbeats 4000000 in
theorem lineage_any (v:Value) (rows:List Row) (w:World) (hv:SliceOf Rep.row w.cell? v rows) (hl:rows.length≤8192) (hf : ∀r∈rows,r.lin.length≤1000) :
  Calls Tryz.prog 99 #[v] w fun e w'=> ∃v',e = .returned v'∧SliceOf Rep.int (on w' (since w)) v' (linS rows)∧Ext w w':=by
 obtain⟨i0,hi,hz0,hz1,hz2⟩:=info_parts info_ints
 have HV:=Lib.hid hv
 have HF:=Lib.hid hf
 obtain⟨p,c,rfl,_,_,hp⟩:=hv.form
 obtain⟨N,hN⟩ : ∃z,z=rows.length:=⟨_,rfl⟩
 rw [←hN]at HV hp ⊢
 have HN:=Lib.hid hN
 have HP:=Lib.hid hp
 have hN8:N≤8192:=by omega
 clear hv hl hf hp hN
 go_enter Tryz.func99,Tryz.ntmps99
 go_wp2_with fail
 go_loopg [3,8] N (fun gk vo vi wr=> ∃(k:Nat) (u:Value) (o:List Int),k≤N∧gk=N - k∧vi = .int .i64 k∧u=vo∧Hid (OwnOf Rep.int wr (fun _=>True) w.heap.size 3 u o)∧Hid (o=(rows.take k).flatMap Row.lin)∧Hid (Ext w wr))
 case atStart=>exact⟨0,_,[],by omega,rfl,rfl,rfl,OwnOf.nil _ _ _ _ _,rfl,Ext.refl w⟩
 case round =>
  obtain⟨k,u,o,hk,rfl,rfl,rfl,OW,HO,X⟩:=hrel
  by_cases hlt:k<N
  ·have hkl:k<rows.length:=by have:=HN.out;omega
   have hd:decide ((k:Int)<(N:Int))=true:=by simp;omega
   obtain⟨b,oo,rfl⟩:=HP.out (by decide) (by omega)
   have hv:=HV.out
   rw [HN.out]at hv
   obtain⟨ua,ub,c0,c1,g0,g1⟩:=row_at hv k hkl
   obtain⟨pa,ka,rfl,-⟩:=g0.form
   obtain⟨pb,kb,rfl,-⟩:=g1.form
   have hst:=flatLin_take rows k hkl
   rw [←HO.out]at hst
   have hol:o.length≤8192000:=by
    rw [HO.out]
    have h1:=flatLin_len (rows:=rows.take k) fun r hr=>HF.out r (List.mem_of_mem_take hr)
    rw [List.length_take]at h1
    omega
   have hfx:=HF.out rows[k] (List.getElem_mem hkl)
   replace c0:=X.out.at c0
   replace c1:=X.out.at c1
   generalize rows[k]=x at c0 c1 g0 g1 hst hfx
   obtain⟨xv,xl⟩:=x
   dsimp only at c0 c1 g0 g1 hst hfx
   have HG:=Lib.hid g1
   have HST:=Lib.hid hst
   obtain⟨nv,hnv⟩ : ∃z,z=xv.length:=⟨_,rfl⟩
   obtain⟨nl,hnl⟩ : ∃z,z=xl.length:=⟨_,rfl⟩
   rw [←hnv]at c0
   rw [←hnl]at c1 HG
   have HNL:=Lib.hid hnl
   have B1:o.length+xl.length≤maxLen:=by unfold maxLen;omega
   have B2:(o.length+xl.length)*8≤140737488355328:=by omega
   have e0:=cell_lt c0
   clear hv g0 g1 hst hfx hol hnv hnl hkl
   go_wp2_with (at_builtin;go_loud (refine wpList_append_all Rep.int (fun _=>True) rfl _ _ 29 rfl w.heap.size 3 i0 _ 8 Tryz.underlying29 hi hz0 hz1 hz2 rfl (by decide) u o rfl (OW.out.ext ((Ext.refl wr).alloc _)) _ xl rfl (HG.out.ext (old_all (X.out.alloc _) OW.out.base)) B1 B2 (by exact(X.out.alloc _).size) ?_))
   intro v3 w3 own gr _
   have X3:=Lib.hid (ext_grown (X.out.alloc _) gr OW.out.base)
   have OW3:=Lib.hid own
   clear own gr B1 B2
   go_wp2_with fail
   go_roundg (N - (k+1))
   case measure=>omega
   case rel=>exact⟨k+1,_,o++xl,by omega,rfl,by go_num,rfl,OW3.out,HST.out.symm,X3.out⟩
  ·have hd:decide ((k:Int)<(N:Int))=false:=by simp;omega
   have HO2:=Lib.hid (show o=rows.flatMap Row.lin from by rw [HO.out,show k=rows.length by have:=HN.out;omega,List.take_length])
   have HOL:=Lib.hid (show o.length≤137438953472 from by
    rw [HO2.out]
    have h1:=flatLin_len HF.out
    have h2:=HN.out
    omega)
   clear hk
   go_wp2_with fail
   refine(merge_lineageB _ _ o [] _ OW.out.slice (SliceOf.nil _ _) HOL.out (Nat.zero_le _)).mono ?_
   rintro e w2 ⟨v2,rfl,s2,x2⟩
   have HS:=Lib.hid (show SliceOf Rep.int (on w2 (since w)) v2 (linS rows)from by
    have h:SliceOf Rep.int (on w2 (since w)) v2 (mergeL o []):=s2.ext (on_mono _ fun k _ hk=>Nat.le_trans X.out.size hk)
    rw [HO2.out]at h
    exact h)
   have X2:=Lib.hid (X.out.trans x2)
   clear s2 x2
   go_wp2_with fail
   go_ret
   exact⟨_,rfl,HS.out,X2.out⟩
theorem cells_newS (w:World) (p:Addr) (v:Value) (xs:List Value) (T:TypeId) : ∀j u,xs[j]?=some u→((w.setCell p v).alloc (.cells xs.toArray T)).cell? ((⟨w.heap.size,0,none⟩:Addr).add j)=some u:=by
 have h:=cells_new (w.setCell p v) xs T
 rwa [show (w.setCell p v).heap.size=w.heap.size by simp [World.setCell]]at h
theorem zero_i64 (w:World):(zeroValue 3).run Tryz.prog w = .ok (.int .i64 0) w:=by kernel_rfl
theorem info_valsE:(Tryz.prog.info? 56).map (fun i=>(i.zero,i.size,i.bytes))=some (some (.slice none 0 0),(Rep.slice Rep.val).size,24):=by kernel_rfl
theorem info_rowsE:(Tryz.prog.info? 40).map (fun i=>(i.zero,i.size,i.bytes))=some (some (.slice none 0 0),Rep.sl.size,24):=by kernel_rfl
section
variable {w w':World} {T:Nat→Prop} {base C mb:Nat} {cv cr vv rv:Value} {n:Nat} {f:Nat→Value} {ix ks:List (List Val)} {gs:Nat→List Row}
theorem Cls.dataV (_h:Cls w T base C mb cv cr vv rv n f ix ks gs) (hx:Ext w w'):Sub (on w (OutC C mb vv rv n f T)) (on w' (avoid (fun k=>k<w'.heap.size∧OutC C mb vv rv n f T k) vv)):=fun p u e=>by
 obtain⟨h1,h2⟩:=on_some.1 e
 exact on_some.2 ⟨⟨fun e2=>h1.2 (.inr (.inr (.inl e2.symm))),Nat.lt_of_lt_of_le (World.block_lt_of_cell? w p h2) hx.size,h1⟩,hx.at h2⟩
theorem Cls.dataF (_h:Cls w T base C mb cv cr vv rv n f ix ks gs) {i:Nat} (hi:i<n) (hx:Ext w w'):Sub (on w (OutC C mb vv rv n f T)) (on w' (avoid (fun k=>k<w'.heap.size∧OutC C mb vv rv n f T k) (f i))):=fun p u e=>by
 obtain⟨h1,h2⟩:=on_some.1 e
 exact on_some.2 ⟨⟨fun e2=>h1.2 (.inr (.inr (.inr (.inr ⟨i,hi,e2.symm⟩)))),Nat.lt_of_lt_of_le (World.block_lt_of_cell? w p h2) hx.size,h1⟩,hx.at h2⟩
theorem Cls.ownV (h:Cls w T base C mb cv cr vv rv n f ix ks gs):OwnOf (Rep.slice Rep.val) w (fun k=>k<w.heap.size∧OutC C mb vv rv n f T k) base 56 vv ks:=h.vals.weak (fun _ hk hs=>⟨hk,hs⟩) (Nat.le_refl _)
theorem Cls.ownF (h:Cls w T base C mb cv cr vv rv n f ix ks gs) {i:Nat} (hi:i<n):OwnOf Rep.row w (fun k=>k<w.heap.size∧OutC C mb vv rv n f T k) base 58 (f i) (gs i):=(h.fam.own i hi).weak (fun _ hk hs=>⟨hk,hs⟩) (Nat.le_refl _)
end
def AddPost (T:Nat→Prop) (base C mb:Nat) (vv rv:Value) (n:Nat) (f:Nat→Value) (l:List (List Val×Row)) (w:World) (e:Ending) (w':World):Prop :=
 e = .returned (.tuple #[])∧ ∃vv' rv' n' f',Cls w' T base C mb vv' rv' vv' rv' n' f' (ksL l) (ksL l) (gsL l)∧n'=(ksL l).length∧Chg (InC C mb vv rv n f) w w'∧ ∀k,k<w.heap.size→ ¬InC C mb vv rv n f k→ ¬InC C mb vv' rv' n' f' k
set_option maxRecDepth 100000 in
set_option maxHeartbeats 16000000 in
theorem add_any (T:Nat→Prop) (base C mb:Nat) (vv rv:Value) (n:Nat) (f:Nat→Value) (l:List (List Val×Row)) (kv:List Val) (r:Row) (va ra rb:Value) (w:World)
  (hX:Cls w T base C mb vv rv vv rv n f (ksL l) (ksL l) (gsL l)) (hn:n=(ksL l).length) (hl:l.length≤8192)
  (hv:SliceOf Rep.val (on w (OutC C mb vv rv n f T)) va kv) (hra:SliceOf Rep.val (on w (OutC C mb vv rv n f T)) ra r.vals) (hrb:SliceOf Rep.int (on w (OutC C mb vv rv n f T)) rb r.lin)
  (hf:kv.length≤1000∧ ∀x∈kv,x.s.size≤1048576) (ht:TabW w) :
  Calls Tryz.prog 154 #[.pointer (some ⟨C,0,none⟩),va,.agg #[ra,rb]] w (AddPost T base C mb vv rv n f (l ++ [(kv,r)]) w):=by
 obtain⟨i1,hi1,hz10,hz11,hz12⟩:=info_parts info_valsE
 obtain⟨i2,hi2,hz20,hz21,hz22⟩:=info_parts info_rowsE
 obtain⟨i3,hi3,hz30,hz31,hz32⟩:=info_parts infoRow
 obtain⟨pa,ca,rfl,-⟩:=hv.form
 obtain⟨pra,cra,rfl,-⟩:=hra.form
 obtain⟨prb,crb,rfl,-⟩:=hrb.form
 obtain⟨xv,xl⟩:=r
 dsimp only at hra hrb ⊢
 obtain⟨K,hK⟩ : ∃z,z=kv.length:=⟨_,rfl⟩
 obtain⟨nv,hnv⟩ : ∃z,z=xv.length:=⟨_,rfl⟩
 obtain⟨nl,hnl⟩ : ∃z,z=xl.length:=⟨_,rfl⟩
 have HKS2:=Lib.hid (show keyOf Tryz.prog 9 (.string ⟨(keyVals kv).toArray⟩)=some (keyG kv)from key_str _ (keyG_len hv hf.1 hf.2))
 obtain⟨kst,hkst⟩ : ∃x:ByteArray,x=⟨(keyVals kv).toArray⟩:=⟨_,rfl⟩
 have HKST:=Lib.hid hkst
 rw [←hkst]at HKS2
 rw [←hK]at hv ⊢
 rw [←hnv]at hra ⊢
 rw [←hnl]at hrb ⊢
 have HX:=Lib.hid hX
 have HV:=Lib.hid hv
 have HRA:=Lib.hid hra
 have HRB:=Lib.hid hrb
 have HF:=Lib.hid hf
 have HT:=Lib.hid ht
 have HNN:=Lib.hid hn
 have HLL:=Lib.hid (And.intro hl (ksL_len l))
 have HGL:=Lib.hid (fun i=>gsL_len l i)
 have HK:=Lib.hid hK
 have hn8:n≤8192:=by have:=ksL_len l;omega
 clear hX hv hra hrb hf ht hn hl hkst hK hnv hnl
 go_enter Tryz.func154,Tryz.ntmps154
 go_wp2_with fail
 refine(key_any _ kv _ (HV.out.ext ((on_sub _ _).trans ((Ext.refl w).alloc _).full)) ⟨by have:=HF.out.1;omega,HF.out.2⟩ (HT.out.ext ((Ext.refl w).alloc _))).mono ?_
 rintro e w1 ⟨rfl,x1⟩
 rw [←HKST.out]
 have X1:=Lib.hid (((Ext.refl w).alloc (.cells #[.slice pra nv cra,.slice prb nl crb] 58)).trans x1)
 have b0:w1.cell? ⟨w.heap.size,0,none⟩=some (.slice pra nv cra):=x1.at (by go_simp)
 have b1:w1.cell? ⟨w.heap.size,1,none⟩=some (.slice prb nl crb):=x1.at (by go_simp)
 have HX1:=Lib.hid (HX.out.ext X1.out)
 have HBX:=Lib.hid (show ∀k,InC C mb vv rv n f k→k<w.heap.size from HX.out.lt)
 obtain⟨m,hm1,hm2⟩:=HX1.out.mp
 obtain⟨c,ok,hc,hok,HCO⟩ : ∃c ok,(m (keyG kv)).getD (.int .i64 0)=c∧(m (keyG kv)).isSome=ok∧Hid ((ok=false∧kv∉ksL l)∨(ok=true∧ ∃i:Nat,c = .int .i64 i∧ ∃h:i<(ksL l).length,(ksL l)[i]=kv)):=by
  by_cases hin:kv∈ksL l
  ·obtain⟨i,hi,he⟩:=List.getElem_of_mem hin
   have h1:=hm2.1 i hi
   rw [he]at h1
   exact⟨_,_,rfl,rfl,.inr ⟨by rw [h1];rfl,i,by rw [h1];rfl,hi,he⟩⟩
  ·exact⟨_,_,rfl,rfl,.inl ⟨by rw [hm2.2 kv hin];rfl,hin⟩⟩
 have HM1:=Lib.hid hm1
 have HM2:=Lib.hid hm2
 have HC1:=Lib.hid hc
 have HC2:=Lib.hid hok
 obtain⟨pv,cvv,hvv,hpv⟩:=HX1.out.vals.shapeL
 obtain⟨pr,crr,hrr,hpr⟩:=HX1.out.rows.shapeL
 have k0:=HX1.out.c0
 have k1:=HX1.out.c1
 have k2:=HX1.out.c2
 have k3:=HX1.out.f1
 have k4:=HX1.out.f2
 have e0:=cell_lt k0
 have e1:=cell_lt b0
 clear x1 hm1 hm2 hc hok
 go_upto_if 21 with (at_lookup;go_loud (refine wpList_lookupOk_v _ rfl _ _ 162 rfl 9 3 (string_keyed Tryz.underlying9) Tryz.underlying162 (.int .i64 0) (zero_i64 _) ShI ⟨0,rfl⟩ mb _ m rfl HM1.out _ (keyG kv) rfl HKS2.out (keyG_lit _) c ok HC1.out HC2.out ?_))
 have HNR:=Lib.hid (show ((List.range n).map f).length=n from by rw [List.length_map,List.length_range])
 rw [←HNN.out]at hvv
 rw [HNR.out]at hrr hpr
 subst hvv hrr
 have HPR:=Lib.hid hpr
 have HKL:=Lib.hid (show (ksL l).length+1=n+1 from by rw [←HNN.out])
 clear hpv hpr
 go_cut [7] (fun s7 wx=> ∃(i:Nat) (vv':Value) (pr':Option Addr) (cr':Nat) (n':Nat) (f':Nat→Value) (gs':Nat→List Row),s7 = .int .i64 i∧n'≤8193∧i<n'∧Hid (Cls wx T base C mb vv' (.slice pr' n' cr') vv' (.slice pr' n' cr') n' f' (ksL (l ++ [(kv,⟨xv,xl⟩)])) (ksL (l ++ [(kv,⟨xv,xl⟩)])) gs')∧Hid (n'=(ksL (l ++ [(kv,⟨xv,xl⟩)])).length∧(∀j,j<n'→gsL (l ++ [(kv,⟨xv,xl⟩)]) j=updF gs' i (gs' i ++ [⟨xv,xl⟩]) j)∧(gs' i).length≤8192)∧Hid (wx.cell? ⟨w.heap.size,0,none⟩=some (.slice pra nv cra)∧wx.cell? ⟨w.heap.size,1,none⟩=some (.slice prb nl crb))∧Hid (Chg (InC C mb (.slice pv n cvv) (.slice pr n crr) n f) w wx)∧Hid (∀k,k<w.heap.size→ ¬InC C mb (.slice pv n cvv) (.slice pr n crr) n f k→ ¬InC C mb vv' (.slice pr' n' cr') n' f' k))
 case first =>
  rcases HCO.out with ⟨rfl,hnot⟩ | ⟨rfl,i,rfl,hil,hik⟩
  ·have HNOT:=Lib.hid hnot
   have HNEW:=Lib.hid (gsL_new ⟨xv,xl⟩ hnot)
   have HSC:=Lib.hid (show w.heap.size<w1.heap.size from e1)
   clear hnot HC1 HC2 HCO
   go_wp2_with (at_mapUpdate;go_loud (refine wpList_store_v _ rfl _ _ _ 162 rfl 9 3 (string_keyed Tryz.underlying9) Tryz.underlying162 ShI mb (ksL l).length m rfl HM1.out (by rw [←HNN.out];unfold maxLen;omega) _ _ (keyG kv) rfl rfl HKS2.out ⟨_,rfl⟩ ?_))
   intro w3 m3 gr3
   have hneb : ∀k,(some mb:Option Nat)=some k→k≠w.heap.size:=fun k hk e=>by
    have h1:=HBX.out mb (.inr (.inl rfl))
    have h2:=Option.some.inj hk
    omega
   have X3:=Lib.hid (HX1.out.index (ix':=ksL l ++ [kv]) (m:=putV m (keyG kv) (.int .i64 n)) (by rw [List.length_append,List.length_singleton];exact m3) (by have h:=HM2.out.step HNOT.out;rw [←HNN.out]at h;exact h) gr3)
   have CH3:=Lib.hid (show Chg (InC C mb (.slice pv n cvv) (.slice pr n crr) n f) w w3 from (X1.out.chg _).grown gr3 (fun k hk=> .inl (.inr (.inl (Option.some.inj hk).symm))))
   have B3:=Lib.hid (And.intro (cell_grown gr3 b0 hneb) (cell_grown gr3 b1 hneb))
   have SV3:=Lib.hid (HV.out.chg CH3.out (fun k hk=>hk.2))
   have k1':=X3.out.c1
   have k2':=X3.out.c2
   have k3':=X3.out.f1
   have k4':=X3.out.f2
   have e3:=cell_lt k1'
   have e4:=cell_lt B3.out.1
   have B1:(ksL l).length+1≤maxLen:=by rw [←HNN.out];unfold maxLen;omega
   have B2:((ksL l).length+1)*24≤140737488355328:=by rw [←HNN.out];omega
   clear m3 gr3 hneb k0 k1 k2 k3 k4 b0 b1 e0 e1 HM1 HM2 HX1
   go_wp2_with (at_builtin;go_loud (refine wpList_append_one (Rep.slice Rep.val) (fun k=>k<(w3.alloc (.cells #[.slice pa K ca] 56)).heap.size∧OutC C mb (.slice pv n cvv) (.slice pr n crr) n f T k) rfl _ _ 163 rfl base 56 i1 _ 24 Tryz.underlying163 hi1 hz10 hz11 hz12 rfl (by decide) (.slice pv n cvv) (ksL l) rfl ((X3.out.ext ((Ext.refl w3).alloc _)).ownV) ⟨w3.heap.size,0,none⟩ 1 kv [.slice pa K ca] rfl ⟨_,rfl,SV3.out.ext (X3.out.dataV ((Ext.refl w3).alloc _))⟩ (by exact cells_new w3 [.slice pa K ca] _) B1 B2 (by exact(X3.out.ext ((Ext.refl w3).alloc _)).hi) ?_))
   intro g cap w4 own4 gr4 hat4
   rw [HKL.out]at own4 ⊢
   replace own4:OwnOf (Rep.slice Rep.val) w4 (fun k=>k<(w3.alloc (.cells #[.slice pa K ca] 56)).heap.size∧OutC C mb (.slice pv n cvv) (.slice pr n crr) n f T k) base 56 (.slice (some ⟨g,0,none⟩) (n+1) cap) (ksL l ++ [kv]):=own4.weak (fun k _ hk=>⟨by rw [alloc_size];exact hk.1,hk.2⟩) (Nat.le_refl _)
   replace hat4:(Value.slice pv n cvv).ownBlock=some g∨g=(w3.alloc (.cells #[.slice pa K ca] 56)).heap.size:=by
    rcases hat4 with h | h
    ·exact .inl h
    ·exact .inr (by rw [h];simp)
   have xa:=(Ext.refl w3).alloc (.cells #[.slice pa K ca] 56)
   have hnb4 : ∀k,(Value.slice pv n cvv).ownBlock=some k→k≠w.heap.size:=fun k hk e=>by
    have h1:=HBX.out k (.inr (.inr (.inl hk)))
    omega
   have X4:=Lib.hid ((X3.out.ext xa).pushV own4 gr4 hat4)
   have CH4:=Lib.hid ((CH3.out.ext xa).grown gr4 (fun k hk=> .inl (.inr (.inr (.inl hk)))))
   have B4:=Lib.hid (And.intro (cell_grown gr4 (xa.at B3.out.1) hnb4) (cell_grown gr4 (xa.at B3.out.2) hnb4))
   have OUT4:=Lib.hid (show ∀k,k<w.heap.size→ ¬InC C mb (.slice pv n cvv) (.slice pr n crr) n f k→ ¬InC C mb (.slice (some ⟨g,0,none⟩) (n+1) cap) (.slice pr n crr) n f k from fun k hk hn=>out_v hat4 k (by have h1:=CH3.out.size;have h2:=xa.size;omega) hn)
   have X5:=Lib.hid (X4.out.setV (.slice (some ⟨g,0,none⟩) (n+1) cap))
   have q1:=X4.out.c1
   have q2:=X4.out.c2
   have q3:=X4.out.f1
   have q4:=X4.out.f2
   have e5:=cell_lt q1
   have e6:=cell_lt B4.out.1
   obtain⟨fs,hfs⟩ : ∃z,z=(List.range n).map f:=⟨_,rfl⟩
   have HFS:=Lib.hid hfs
   have OR:=Lib.hid (show OwnOf Rep.sl (w4.setCell ⟨C,1,none⟩ (.slice (some ⟨g,0,none⟩) (n+1) cap)) (fun _=>False) base 40 (.slice pr n crr) fs from by rw [hfs];exact X5.out.rows)
   have HFL:=Lib.hid (show fs.length+1=n+1 from by rw [hfs,HNR.out])
   have C1:fs.length+1≤maxLen:=by rw [HFL.out];unfold maxLen;omega
   have C2:(fs.length+1)*24≤140737488355328:=by rw [HFL.out];omega
   clear own4 gr4 hat4 xa hnb4 k1' k2' k3' k4' e3 e4 hfs B1 B2
   go_wp2_with (at_builtin;go_loud (refine wpList_append_one Rep.sl (fun _=>False) rfl _ _ 106 rfl base 40 i2 _ 24 Tryz.underlying106 hi2 hz20 hz21 hz22 rfl (by decide) (.slice pr n crr) fs rfl (OR.out.ext ((Ext.refl _).alloc _)) ⟨_,0,none⟩ 1 (.slice none 0 0) [.slice none 0 0] rfl ⟨rfl,_,_,_,rfl⟩ (by exact cells_newS w4 _ _ [.slice none 0 0] _) C1 C2 (by exact(X5.out.ext ((Ext.refl _).alloc _)).hi) ?_))
   intro g2 cap2 w6 own6 gr6 hat6
   rw [HFL.out]at own6 ⊢
   rw [HFS.out]at own6
   replace hat6:(Value.slice pr n crr).ownBlock=some g2∨g2=((w4.setCell ⟨C,1,none⟩ (.slice (some ⟨g,0,none⟩) (n+1) cap)).alloc (.cells #[.slice none 0 0] 40)).heap.size:=by
    rcases hat6 with h | h
    ·exact .inl h
    ·exact .inr (by rw [h];simp)
   have xb:=(Ext.refl (w4.setCell ⟨C,1,none⟩ (.slice (some ⟨g,0,none⟩) (n+1) cap))).alloc (.cells #[.slice none 0 0] 40)
   have hnb6 : ∀k,(Value.slice pr n crr).ownBlock=some k→k≠w.heap.size:=fun k hk e=>by
    have h1:=HBX.out k (.inr (.inr (.inr (.inl hk))))
    omega
   have X6:=Lib.hid ((X5.out.ext xb).pushR own6 gr6 hat6)
   have hC0:C<w.heap.size:=HBX.out C (.inl rfl)
   have CH6:=Lib.hid (((CH4.out.setCell (p:=⟨C,1,none⟩) (.inl (.inl rfl)) (.slice (some ⟨g,0,none⟩) (n+1) cap)).ext xb).grown gr6 (fun k hk=> .inl (.inr (.inr (.inr (.inl hk))))))
   have B6:=Lib.hid (And.intro (cell_grown gr6 (xb.at (cell_set B4.out.1 (fun e=>by dsimp only at e;omega))) hnb6) (cell_grown gr6 (xb.at (cell_set B4.out.2 (fun e=>by dsimp only at e;omega))) hnb6))
   have hgg:(Value.slice pr n crr).ownBlock=some g2∨w.heap.size≤g2:=hat6.imp id fun h=>by
    have h1:=CH4.out.size
    have h2:=xb.size
    have h3:(w4.setCell ⟨C,1,none⟩ (.slice (some ⟨g,0,none⟩) (n+1) cap)).heap.size=w4.heap.size:=by simp [World.setCell]
    rw [h3]at h2
    rw [h]
    omega
   have OUT6:=Lib.hid (show ∀k,k<w.heap.size→ ¬InC C mb (.slice pv n cvv) (.slice pr n crr) n f k→ ¬InC C mb (.slice (some ⟨g,0,none⟩) (n+1) cap) (.slice (some ⟨g2,0,none⟩) (n+1) cap2) (n+1) (updF f n (.slice none 0 0)) k from fun k hk hn=>by
    rintro(e | e | e | e | ⟨j,hj,e⟩)
    ·exact hn (.inl e)
    ·exact hn (.inr (.inl e))
    ·exact OUT4.out k hk hn (.inr (.inr (.inl e)))
    ·have e:g2=k:=Option.some.inj e
     rcases hgg with h | h
     ·exact hn (.inr (.inr (.inr (.inl (by rw [h,e])))))
     ·omega
    ·by_cases c:j=n
     ·rw [c,updF_same]at e;cases e
     ·rw [updF_other _ _ c]at e
      exact hn (.inr (.inr (.inr (.inr ⟨j,by omega,e⟩)))))
   have X7:=Lib.hid (X6.out.setR (.slice (some ⟨g2,0,none⟩) (n+1) cap2))
   have CH7:=Lib.hid (CH6.out.setCell (p:=⟨C,2,none⟩) (.inl (.inl rfl)) (.slice (some ⟨g2,0,none⟩) (n+1) cap2))
   have B7:=Lib.hid (show (w6.setCell ⟨C,2,none⟩ (.slice (some ⟨g2,0,none⟩) (n+1) cap2)).cell? ⟨w.heap.size,0,none⟩=some (.slice pra nv cra)∧(w6.setCell ⟨C,2,none⟩ (.slice (some ⟨g2,0,none⟩) (n+1) cap2)).cell? ⟨w.heap.size,1,none⟩=some (.slice prb nl crb)from ⟨cell_set B6.out.1 (fun e=>by dsimp only at e;omega),cell_set B6.out.2 (fun e=>by dsimp only at e;omega)⟩)
   have z1:=X6.out.c1
   have z2:=X6.out.c2
   have z3:=X6.out.f2
   have e7:=cell_lt z1
   clear own6 gr6 hat6 xb hnb6 hgg q1 q2 q3 q4 e5 e6 C1 C2 hC0
   go_wp2_with fail
   go_meet
   refine⟨n,_,_,_,n+1,_,updF (gsL l) n [],rfl,by omega,Nat.lt_succ_self n,?_,⟨?_,?_,?_⟩,B7.out,CH7.out,OUT6.out⟩
   ·rw [HNEW.out.1];exact X7.out
   ·rw [HNEW.out.1,List.length_append,List.length_singleton,←HNN.out]
   ·intro j hj
    rw [HNEW.out.2 j (by rw [←HNN.out];exact hj),←HNN.out]
    rw [updF_same]
   ·rw [updF_same];exact Nat.zero_le _
  ·have HOLD:=Lib.hid (gsL_old ⟨xv,xl⟩ hil hik)
   have HIL:=Lib.hid (show i<n from by rw [HNN.out];exact hil)
   clear hil hik HC1 HC2 HCO
   go_wp2_with fail
   go_meet
   refine⟨i,_,_,_,n,f,gsL l,rfl,by omega,HIL.out,?_,⟨?_,?_,?_⟩,⟨b0,b1⟩,X1.out.chg _,fun k _ hn=>hn⟩
   ·rw [HOLD.out.1];exact HX1.out
   ·rw [HOLD.out.1];exact HNN.out
   ·intro j hj
    exact HOLD.out.2 j (by rw [←HNN.out];exact hj)
   ·have h1:=HGL.out i
    have h2:=HLL.out.1
    omega
 case rest =>
  obtain⟨i,vv',pr',cr',n',f',gs',rfl,hn',hin,X,HG,HB,CH,OUT⟩:=hcut
  clear HX1 HM1 HM2 HC1 HC2 HCO k0 k1 k2 k3 k4 b0 b1 e0 e1
  obtain⟨p9,c9,hrv,hpr9⟩:=X.out.rows.shapeL
  have hrl:((List.range n').map f').length=n':=by rw [List.length_map,List.length_range]
  rw [hrl]at hrv hpr9
  injection hrv with e1 _ e2
  subst e1 e2
  obtain⟨rb',rfl⟩:=hpr9 (by omega)
  obtain⟨hcA,hfr⟩:=sl_at X.out.rows i (by rw [hrl];exact hin)
  rw [List.getElem_map,List.getElem_range]at hcA
  obtain⟨pf,cf,hfi,_⟩:=(X.out.fam.own i hin).shapeL
  obtain⟨nf,hnf⟩ : ∃z,z=(gs' i).length:=⟨_,rfl⟩
  rw [←hnf]at hfi
  have HNF:=Lib.hid hnf
  have HFI:=Lib.hid hfi
  have hoF:=X.out.ownF hin
  rw [hfi]at hcA hoF
  have OF:=Lib.hid hoF
  have SVx:=Lib.hid (show Sub (on w (OutC C mb (.slice pv n cvv) (.slice pr n crr) n f T)) (on wc (OutC C mb vv' (.slice (some ⟨rb',0,none⟩) n' cr') n' f' T))from fun p u e=>by
   obtain⟨h1,h2⟩:=on_some.1 e
   exact on_some.2 ⟨⟨h1.1,OUT.out _ (World.block_lt_of_cell? w p h2) h1.2⟩,CH.out.at h2 h1.2⟩)
  have k2:=X.out.c2
  have b0:=HB.out.1
  have b1:=HB.out.2
  have hii:(i:Int)<(n':Int):=by omega
  have HIN:=Lib.hid hin
  have HGS:=Lib.hid (show (gs' i).length≤8192 from HG.out.2.2)
  have C1:(gs' i).length+1≤maxLen:=by have:=HGS.out;unfold maxLen;omega
  have C2:((gs' i).length+1)*48≤140737488355328:=by have:=HGS.out;omega
  have HSX:=Lib.hid (show w.heap.size≤wc.heap.size from CH.out.size)
  have hnC : ∀k,(Value.slice pf nf cf).ownBlock=some k→k≠C:=fun k hk e=>by
   have h1:=(X.out.fam.own i hin).base k (by rw [hfi];exact hk)
   have h2:=X.out.lo.1
   omega
  have hnR : ∀k,(Value.slice pf nf cf).ownBlock=some k→k≠rb':=fun k hk e=>X.out.apr i hin rb' rfl (by rw [hfi,hk,e])
  have HNC:=Lib.hid hnC
  have HNRb:=Lib.hid hnR
  have e2:=cell_lt k2
  have e3:=cell_lt hcA
  have e4:=cell_lt b0
  clear hpr9 hrl hnf hfi hoF hnC hnR
  go_wp2_with fail
  go_region_law (first
   |(go_loud (refine step_append_one Rep.row (fun k=>k<(wc.alloc (.cells #[.slice pra nv cra,.slice prb nl crb] 58)).drew.heap.size∧OutC C mb vv' (.slice (some ⟨rb',0,none⟩) n' cr') n' f' T k) rfl _ _ 40 rfl base 58 i3 _ 48 Tryz.underlying40 hi3 hz30 hz31 hz32 rfl (by decide) (.slice pf nf cf) (gs' i) rfl (by rw [←HFI.out];exact(X.out.ext ((Ext.refl wc).alloc _).drew).ownF HIN.out) ⟨_,0,none⟩ 1 ⟨xv,xl⟩ [.slice pra nv cra,.slice prb nl crb] rfl ⟨_,_,rfl,(HRA.out.ext SVx.out).ext (by rw [←HFI.out];exact X.out.dataF HIN.out ((Ext.refl wc).alloc _).drew),(HRB.out.ext SVx.out).ext (by rw [←HFI.out];exact X.out.dataF HIN.out ((Ext.refl wc).alloc _).drew)⟩ (by exact cells_new wc [.slice pra nv cra,.slice prb nl crb] _) C1 C2 (by exact(X.out.ext ((Ext.refl wc).alloc _).drew).hi) ?_);intro g9 cap9 w9 own9 gr9 hg9;have y0:=cell_grown gr9 (((Ext.refl wc).alloc (.cells #[.slice pra nv cra,.slice prb nl crb] 58)).drew.at k2) HNC.out;have y1:=cell_grown gr9 (((Ext.refl wc).alloc (.cells #[.slice pra nv cra,.slice prb nl crb] 58)).drew.at hcA) HNRb.out;have y2:=frozen_grown gr9 (((Ext.refl wc).alloc (.cells #[.slice pra nv cra,.slice prb nl crb] 58)).drew.at hcA) (((Ext.refl wc).alloc (.cells #[.slice pra nv cra,.slice prb nl crb] 58)).drew.unfrozen hcA hfr) HNRb.out;have y3:=cell_lt y1))
  all_goals
   have xl9:Ext wc (wc.alloc (.cells #[.slice pra nv cra,.slice prb nl crb] 58)).drew:=((Ext.refl wc).alloc _).drew
   have X10:=Lib.hid ((X.out.ext xl9).part rfl HIN.out own9 (by rw [HFI.out];exact gr9) (by rw [HFI.out];exact hg9))
   have hInN : ∀k,InC C mb vv' (.slice (some ⟨rb',0,none⟩) n' cr') n' f' k→InC C mb (.slice pv n cvv) (.slice pr n crr) n f k∨w.heap.size≤k:=fun k hk=>by
    rcases Nat.lt_or_ge k w.heap.size with h | h
    ·exact .inl (Classical.byContradiction fun hn=>OUT.out k h hn hk)
    ·exact .inr h
   have CH10:=Lib.hid (((CH.out.ext xl9).grown gr9 (fun k hk=>hInN k (.inr (.inr (.inr (.inr ⟨i,HIN.out,by rw [HFI.out];exact hk⟩)))))).setCell (p:=⟨rb',i,none⟩) (hInN rb' (.inr (.inr (.inr (.inl rfl))))) (.slice (some ⟨g9,0,none⟩) ((gs' i).length+1) cap9))
   have OUT10:=Lib.hid (show ∀k,k<w.heap.size→ ¬InC C mb (.slice pv n cvv) (.slice pr n crr) n f k→ ¬InC C mb vv' (.slice (some ⟨rb',0,none⟩) n' cr') n' (updF f' i (.slice (some ⟨g9,0,none⟩) ((gs' i).length+1) cap9)) k from fun k hk hn=>by
    have hn2:=OUT.out k hk hn
    rintro(e | e | e | e | ⟨j,hj,e⟩)
    ·exact hn2 (.inl e)
    ·exact hn2 (.inr (.inl e))
    ·exact hn2 (.inr (.inr (.inl e)))
    ·exact hn2 (.inr (.inr (.inr (.inl e))))
    ·by_cases c:j=i
     ·rw [c,updF_same]at e
      have e:g9=k:=Option.some.inj e
      rcases hg9 with h | h
      ·exact hn2 (.inr (.inr (.inr (.inr ⟨i,HIN.out,by rw [HFI.out,h,e]⟩))))
      ·have h1:=HSX.out
       have h2:=xl9.size
       omega
     ·rw [updF_other _ _ c]at e
      exact hn2 (.inr (.inr (.inr (.inr ⟨j,hj,e⟩)))))
   clear own9 gr9 hg9 xl9 hInN y3
   go_wp2_with fail
   go_end0
   exact⟨rfl,_,_,_,_,X10.out.congr HG.out.2.1,HG.out.1,CH10.out,OUT10.out⟩
structure ClsR (w:World) (T:Nat→Prop) (C:Nat) (ks:List (List Val)) (gs:List (List Row)):Prop where
 c0 : ∃mb m,w.cell? ⟨C,0,none⟩=some (.map (some mb))∧MapV w Tryz.prog 9 ShI mb ks.length m∧IdxOk m ks
 c1 : ∃vv,w.cell? ⟨C,1,none⟩=some vv∧SliceOf (Rep.slice Rep.val) (on w T) vv ks
 c2 : ∃rv,w.cell? ⟨C,2,none⟩=some rv∧SliceOf (Rep.slice Rep.row) (on w T) rv gs
theorem ClsR.ext {w w':World} {T:Nat→Prop} {C:Nat} {ks:List (List Val)} {gs:List (List Row)} (h:ClsR w T C ks gs) (hx:Ext w w'):ClsR w' T C ks gs:=by
 obtain⟨⟨mb,m,h1,h2,h3⟩,⟨vv,h4,h5⟩,⟨rv,h6,h7⟩⟩:=h
 exact⟨⟨mb,m,hx.at h1,h2.kept (Ext.grows hx) (by simp),h3⟩,⟨vv,hx.at h4,h5.ext (hx.sub _)⟩,⟨rv,hx.at h6,h7.ext (hx.sub _)⟩⟩
theorem Cls.readR {w:World} {T:Nat→Prop} {base C mb:Nat} {vv rv:Value} {n:Nat} {f:Nat→Value} {ks:List (List Val)} {gs:Nat→List Row} (h:Cls w T base C mb vv rv vv rv n f ks ks gs) (hT : ∀k,base≤k→T k):ClsR w T C ks ((List.range n).map gs):=by
 obtain⟨m,h1,h2⟩:=h.mp
 obtain⟨h3,h4⟩:=h.read hT
 exact⟨⟨mb,m,h.c0,h1,h2⟩,⟨vv,h.c1,h3⟩,⟨rv,h.c2,h4⟩⟩
end Go.Proofs.YtombmdaohcjokaaGreatDoor
namespace Go.Proofs.YtombmdaohcjokaaGreatDoor
open Go.RowKit Go.Maps Go.Deep
theorem prs_take (proj:List Val→List Val) (rows:List Row) (k:Nat) (h:k<rows.length):prs proj (rows.take (k+1))=prs proj (rows.take k) ++ [(proj rows[k].vals,rows[k])]:=by
 unfold prs
 rw [List.take_succ_eq_append_getElem h,List.map_append,List.map_cons,List.map_nil]
theorem prs_len (proj:List Val→List Val) (rows:List Row):(prs proj rows).length=rows.length:=List.length_map _
section
variable {w w':World} {T:Nat→Prop} {base C mb:Nat} {cv cr vv rv:Value} {n:Nat} {f:Nat→Value} {ix ks:List (List Val)} {gs:Nat→List Row}
theorem Cls.ge (h:Cls w T base C mb cv cr vv rv n f ix ks gs) {N:Nat} (hC:N≤C) (hm:N≤mb) : ∀k,InC C mb vv rv n f k→N≤k:=by
 have h1:=h.lo
 rintro k (rfl | rfl | e | e | ⟨i,hi,e⟩)
 ·exact hC
 ·exact hm
 ·have:=(h.vals.lt k e).1;omega
 ·have:=(h.rows.lt k e).1;omega
 ·have:=((h.fam.own i hi).lt k e).1;omega
theorem Cls.old (h:Cls w T base C mb cv cr vv rv n f ix ks gs) {a:World} (hx:Ext a w) (hC:a.heap.size≤C) (hm:a.heap.size≤mb):Sub (on a T) (on w (OutC C mb vv rv n f T)):=fun p u e=>by
 obtain⟨h1,h2⟩:=on_some.1 e
 refine on_some.2 ⟨⟨h1,fun hi=> ?_⟩,hx.at h2⟩
 have:=h.ge hC hm _ hi
 have:=World.block_lt_of_cell? a p h2
 omega
theorem Cls.start (w:World) (T:Nat→Prop) (tm:TypeId):Cls ((w.alloc (.map #[] 0)).alloc (.cells #[.map (some w.heap.size),.slice none 0 0,.slice none 0 0] tm)) T (w.heap.size+2) (w.heap.size+1) w.heap.size (.slice none 0 0) (.slice none 0 0) (.slice none 0 0) (.slice none 0 0) 0 (fun _=> .slice none 0 0) [] [] (fun _=> []):=by
 have c0:((w.alloc (.map #[] 0)).alloc (.cells #[.map (some w.heap.size),.slice none 0 0,.slice none 0 0] tm)).cell? ⟨w.heap.size+1,0,none⟩=some (.map (some w.heap.size)):=by go_simp
 have c1:((w.alloc (.map #[] 0)).alloc (.cells #[.map (some w.heap.size),.slice none 0 0,.slice none 0 0] tm)).cell? ⟨w.heap.size+1,1,none⟩=some (.slice none 0 0):=by go_simp
 have c2:((w.alloc (.map #[] 0)).alloc (.cells #[.map (some w.heap.size),.slice none 0 0,.slice none 0 0] tm)).cell? ⟨w.heap.size+1,2,none⟩=some (.slice none 0 0):=by go_simp
 have f1:((w.alloc (.map #[] 0)).alloc (.cells #[.map (some w.heap.size),.slice none 0 0,.slice none 0 0] tm)).frozen? ⟨w.heap.size+1,1,none⟩=false:=by go_simp
 have f2:((w.alloc (.map #[] 0)).alloc (.cells #[.map (some w.heap.size),.slice none 0 0,.slice none 0 0] tm)).frozen? ⟨w.heap.size+1,2,none⟩=false:=by go_simp
 exact⟨c0,c1,c2,f1,f2,⟨_,(MapV.made w _ _ _).alloc _,IdxOk.nil⟩,OwnOf.nil _ _ _ _ _,OwnOf.nil _ _ _ _ _,⟨fun i hi=>absurd hi (Nat.not_lt_zero i),fun i j hi=>absurd hi (Nat.not_lt_zero i)⟩,fun k e=>absurd e (fun h=>nomatch h),fun i hi=>absurd hi (Nat.not_lt_zero i),fun i hi=>absurd hi (Nat.not_lt_zero i),⟨by omega,by omega,by omega⟩,by simp⟩
end
set_option maxRecDepth 100000 in
set_option maxHeartbeats 8000000 in
theorem byValues_any (T:Nat→Prop) (v:Value) (rows:List Row) (w:World) (hT : ∀k,w.heap.size≤k→T k) (hv:SliceOf Rep.row (on w T) v rows) (hl:rows.length≤4096) (hf : ∀r∈rows,r.vals.length≤1000∧ ∀x∈r.vals,x.s.size≤1048576) (ht:TabW w) :
  Calls Tryz.prog 98 #[v] w fun e w'=> ∃C,e = .returned (.pointer (some ⟨C,0,none⟩))∧ClsR w' T C (firsts (rows.map Row.vals)) ((firsts (rows.map Row.vals)).map (selV rows))∧Ext w w':=by
 have HTT:=Lib.hid hT
 have HV:=Lib.hid hv
 have HF:=Lib.hid hf
 have HT:=Lib.hid ht
 have hmm:= @run_makeMap Tryz.prog
 obtain⟨p,c,rfl,_,_,hp⟩:=hv.form
 obtain⟨N,hN⟩ : ∃z,z=rows.length:=⟨_,rfl⟩
 rw [←hN]at HV hp ⊢
 have HN:=Lib.hid hN
 have HP:=Lib.hid hp
 have hN8:N≤4096:=by omega
 clear hT hv hl hf ht hp hN
 go_enter Tryz.func98,Tryz.ntmps98
 go_wp2_with fail
 obtain⟨W1,hW1⟩ : ∃z,z=(w.alloc (.map #[] 0)).alloc (.cells #[.map (some w.heap.size),.slice none 0 0,.slice none 0 0] 165):=⟨_,rfl⟩
 have X1:=Lib.hid (show Ext w W1 from by rw [hW1];exact((Ext.refl w).alloc _).alloc _)
 have CL1:=Lib.hid (show Cls W1 T (w.heap.size+2) (w.heap.size+1) w.heap.size (.slice none 0 0) (.slice none 0 0) (.slice none 0 0) (.slice none 0 0) 0 (fun _=> .slice none 0 0) [] [] (fun _=> [])from by rw [hW1];exact Cls.start w T _)
 obtain⟨C,hC⟩ : ∃z,z=w.heap.size+1:=⟨_,rfl⟩
 obtain⟨mb,hmb⟩ : ∃z,z=w.heap.size:=⟨_,rfl⟩
 have HCM:=Lib.hid (show w.heap.size≤C∧w.heap.size≤mb from by omega)
 have CL2:=Lib.hid (show Cls W1 T (w.heap.size+2) C mb (.slice none 0 0) (.slice none 0 0) (.slice none 0 0) (.slice none 0 0) 0 (fun _=> .slice none 0 0) [] [] (fun _=> [])from by rw [hC,hmb];exact CL1.out)
 rw [←hW1,←hC]
 clear hW1 CL1 hC hmb
 go_loopg [11] N (fun gk vi wr=> ∃(k:Nat) (vv rv:Value) (n:Nat) (f:Nat→Value),k≤N∧gk=N - k∧vi = .int .i64 k∧Hid (Cls wr T (w.heap.size+2) C mb vv rv vv rv n f (ksL (prs (fun vs=>vs) (rows.take k))) (ksL (prs (fun vs=>vs) (rows.take k))) (gsL (prs (fun vs=>vs) (rows.take k))))∧Hid (n=(ksL (prs (fun vs=>vs) (rows.take k))).length)∧Hid (Ext w wr))
 case atStart=>exact⟨0,_,_,0,_,by omega,rfl,rfl,CL2.out.congr (fun i hi=>by omega),rfl,X1.out⟩
 case round =>
  clear CL2 X1
  obtain⟨k,vv,rv,n,f,hk,rfl,rfl,CL,HNK,X⟩:=hrel
  by_cases hlt:k<N
  ·have hkl:k<rows.length:=by have:=HN.out;omega
   have hd:decide ((k:Int)<(N:Int))=true:=by simp;omega
   obtain⟨b,oo,rfl⟩:=HP.out (by decide) (by omega)
   have hv:=HV.out
   rw [HN.out]at hv
   obtain⟨ua,ub,c0,c1,g0,g1⟩:=row_at hv k hkl
   obtain⟨pa,ka,rfl,-⟩:=g0.form
   obtain⟨pb,kb,rfl,-⟩:=g1.form
   have hst:=prs_take (fun vs=>vs) rows k hkl
   have hfx:=HF.out rows[k] (List.getElem_mem hkl)
   replace c0:=X.out.at (on_some.1 c0).2
   replace c1:=X.out.at (on_some.1 c1).2
   have hll:(prs (fun vs=>vs) (rows.take k)).length≤8192:=by rw [prs_len,List.length_take];omega
   have HO:=CL.out.old X.out HCM.out.1 HCM.out.2
   generalize rows[k]=x at c0 c1 g0 g1 hst hfx
   obtain⟨xv,xl⟩:=x
   dsimp only at c0 c1 g0 g1 hst hfx
   generalize prs (fun vs=>vs) (rows.take k)=l at CL HNK hst hll
   have HSA:=Lib.hid (g0.ext HO)
   have HSB:=Lib.hid (g1.ext HO)
   have HST:=Lib.hid hst
   have HFX:=Lib.hid hfx
   have HLL:=Lib.hid hll
   obtain⟨nv,hnv⟩ : ∃z,z=xv.length:=⟨_,rfl⟩
   obtain⟨nl,hnl⟩ : ∃z,z=xl.length:=⟨_,rfl⟩
   rw [←hnv]at c0 HSA
   rw [←hnl]at c1 HSB
   have e0:=cell_lt c0
   clear hv g0 g1 hst hfx hll hnv hnl hkl HO
   go_wp2_with fail
   have xa:=(Ext.refl wr).alloc (.cells #[.slice pa nv ka,.slice pb nl kb] 58)
   refine(add_any T (w.heap.size+2) C mb vv rv n f l xv ⟨xv,xl⟩ _ _ _ _ (CL.out.ext xa) HNK.out HLL.out (HSA.out.ext (xa.sub _)) (HSA.out.ext (xa.sub _)) (HSB.out.ext (xa.sub _)) HFX.out (HT.out.ext (X.out.trans xa))).mono ?_
   rintro e w2 ⟨rfl,vv',rv',n',f',cl,hn',ch,-⟩
   have CL3:=Lib.hid cl
   have HN3:=Lib.hid hn'
   have X3:=Lib.hid (show Ext w w2 from ch.below (X.out.trans xa) (CL.out.ge HCM.out.1 HCM.out.2))
   clear cl hn' ch xa
   go_wp2_with fail
   go_roundg (N - (k+1))
   case measure=>omega
   case rel=>exact⟨k+1,vv',rv',n',f',by omega,rfl,by go_num,by rw [HST.out];exact CL3.out,by rw [HST.out];exact HN3.out,X3.out⟩
  ·have hd:decide ((k:Int)<(N:Int))=false:=by simp;omega
   have hkN:k=rows.length:=by have:=HN.out;omega
   have HR:=Lib.hid (show ClsR wr T C (firsts (rows.map Row.vals)) ((firsts (rows.map Row.vals)).map (selV rows))from by
    have h1:=CL.out
    have h2:=HNK.out
    rw [hkN,List.take_length]at h1 h2
    have h3:=h1.readR (fun k hk=>HTT.out k (by omega))
    rw [h2,gsL_prs,ksL_prs]at h3
    exact h3)
   clear hkN
   go_wp2_with fail
   go_ret
   exact⟨_,rfl,HR.out,X.out⟩
set_option maxRecDepth 100000 in
set_option maxHeartbeats 4000000 in
theorem escan_any (E:Nat) (q:QueryI) (db:List TabI) (cols:List (List Int)) (vr:Value) (done:List (List Row)) (nm:ByteArray) (w:World) (hX:EvA w E q db cols vr done) (hdl:db.length≤1048576) :
  Calls Tryz.prog 93 #[.pointer (some ⟨E,0,none⟩),.string nm] w fun e w'=> ∃v,e = .returned v∧SliceOf Rep.row (on w' (avoid (fun b=>b≠E) vr)) v (scanP db nm)∧Ext w w':=by
 have HX:=Lib.hid hX
 obtain⟨vt,t0,t1⟩:=hX.dd
 obtain⟨pt,ct,rfl,_,_,hpt⟩:=t1.form
 have HT:=Lib.hid t1
 obtain⟨N,hN⟩ : ∃z,z=db.length:=⟨_,rfl⟩
 rw [←hN]at t0 hpt hdl HT
 have HN:=Lib.hid hN
 have HPT:=Lib.hid hpt
 have et:=cell_lt t0
 clear hX t1 hpt hN
 go_enter Tryz.func93,Tryz.ntmps93
 go_wp2_with fail
 go_loopg [12] N (fun gk vi wr=> ∃(k:Nat),k≤N∧gk=N - k∧vi = .int .i64 k∧Hid (scanP db nm=scanP (db.drop k) nm)∧Hid (Ext w wr))
 case atStart=>exact⟨0,by omega,rfl,rfl,rfl,Ext.refl w⟩
 case round =>
  obtain⟨k,hk,rfl,rfl,HS,HXX⟩:=hrel
  by_cases hlt:k<N
  ·have hd:decide ((k:Int)<(N:Int))=true:=by simp;omega
   have hkN:(k:Int)<(N:Int):=by omega
   obtain⟨bt,ot,rfl⟩:=HPT.out (by decide) (by omega)
   have hkt:k<db.length:=by have:=HN.out;omega
   obtain⟨vk,vrow,c0,c1,c2,ck,cr,-⟩:=tab_at (by have h:=HT.out;rw [HN.out]at h;exact h) k hkt
   have HK:=Lib.hid (cr.ext (HXX.out.sub _))
   replace c0:=HXX.out.at (on_some.1 c0).2
   replace c1:=HXX.out.at (on_some.1 c1).2
   replace c2:=HXX.out.at (on_some.1 c2).2
   have HDR:=Lib.hid (show db.drop k=db[k]::db.drop (k+1)from List.drop_eq_getElem_cons hkt)
   generalize db[k]=t at c0 c1 c2 ck HK HDR
   obtain⟨⟨tn,tk⟩,tr⟩:=t
   dsimp only at c0 c1 c2 ck HK
   have ec:=cell_lt c0
   obtain⟨p1,k1,rfl,-⟩:=ck.form
   obtain⟨pk,kk,rfl,-⟩:=HK.out.form
   have HS2:=Lib.hid (HS.out.trans (by rw [HDR.out,scanP_cons]))
   clear ck cr hkt HS HDR
   by_cases hn:tn=nm
   ·have bn:(tn.toList==nm.toList)=true:=(Lib.bytes_beq_iff tn nm).2 hn
    have HR:=Lib.hid (show scanP db nm=tr from HS2.out.trans (if_pos hn))
    clear hn HS2
    go_wp2_with fail
    go_ret
    exact⟨_,rfl,by rw [HR.out];exact HK.out.ext (Ext.sub ((Ext.refl wr).alloc _) _),HXX.out.trans ((Ext.refl wr).alloc _)⟩
   ·have bn:(tn.toList==nm.toList)=false:=Bool.eq_false_iff.2 fun h=>hn ((Lib.bytes_beq_iff tn nm).1 h)
    have HS3:=Lib.hid (show scanP db nm=scanP (db.drop (k+1)) nm from HS2.out.trans (if_neg hn))
    clear hn HS2
    go_wp2_with fail
    go_roundg (N - (k+1))
    case measure=>omega
    case rel=>exact⟨k+1,by omega,rfl,by go_num,HS3.out,HXX.out.trans ((Ext.refl wr).alloc _)⟩
  ·have hd:decide ((k:Int)<(N:Int))=false:=by simp;omega
   have HR:=Lib.hid (show scanP db nm = []from by
    rw [HS.out,List.drop_of_length_le (by have:=HN.out;omega)]
    rfl)
   clear HS
   go_wp2_with fail
   go_ret
   exact⟨_,rfl,by rw [HR.out];exact SliceOf.nil _ _,HXX.out⟩
end Go.Proofs.YtombmdaohcjokaaGreatDoor
namespace Go.Proofs
open Go.Shelf
def Tryz.growRow_ren:Go.Shelf.Ren:=⟨fun | 4=>153 | n=>n,fun | 22=>40 | 25=>58 | 3=>3 | 4=>4 | 9=>9 | 20=>20 | 0=>0 | n=>n,fun | n=>n⟩
theorem Tryz.growRow:Go.Proofs.Lays8.n4 Tryz.prog Tryz.growRow_ren:= {
 mixed:=by kernel_rfl
 f4:=⟨Tryz.f153.name,by decide,Tryz.func153.trans (congrArg some (by kernel_rfl))⟩
 t0:=Tryz.underlying0
 a0:=Tryz.isAgg0
 z0:=Tryz.sizeOf0
 v0:=Tryz.zeroValue0
 t3:=Tryz.underlying3
 a3:=Tryz.isAgg3
 z3:=Tryz.sizeOf3
 v3:=Tryz.zeroValue3
 t4:=Tryz.underlying4
 a4:=Tryz.isAgg4
 z4:=Tryz.sizeOf4
 v4:=Tryz.zeroValue4
 t9:=Tryz.underlying9
 a9:=Tryz.isAgg9
 z9:=Tryz.sizeOf9
 v9:=Tryz.zeroValue9
 t20:=Tryz.underlying20
 a20:=Tryz.isAgg20
 z20:=Tryz.sizeOf20
 v20:=Tryz.zeroValue20
 t22:=Tryz.underlying40
 a22:=Tryz.isAgg40
 z22:=Tryz.sizeOf40
 v22:=Tryz.zeroValue40 }
end Go.Proofs
namespace Go.Proofs.YtombmdaohcjokaaGreatDoor
open Go.RowKit Go.Shelf
theorem slice_atT {α:Type} {R:Rep α} {w:World} {T:Nat→Prop} {b o n cap:Nat} {ls:List (List α)} (h:SliceOf (Rep.slice R) (on w T) (.slice (some ⟨b,o,none⟩) n cap) ls) (i:Nat) (hi:i<ls.length) : ∃u,w.cell? ⟨b,o+i,none⟩=some u∧SliceOf R (on w T) u ls[i]:=by
 obtain⟨c,⟨u,rfl,h1⟩,h2⟩:=h.at i hi
 have:=h2 0 u rfl
 simp only [show (Rep.slice R).size=1 from rfl,Nat.mul_one,Nat.add_zero]at this
 exact⟨u,(on_some.1 this).2,h1⟩
theorem grow_row (S:Nat→Prop) (n:Nat) (w:World) (hn:n≤1099511627776):Calls Tryz.prog 153 #[.slice none 0 0,.int .i64 n] w fun e w'=> ∃v',e = .returned v'∧OwnOf Rep.row w' S w.heap.size 58 v' []∧Ext w w':=by
 obtain⟨i0,hi,hz0,hz1,hz2⟩:=info_parts infoRow
 by_cases h0:n=0
 ·subst h0
  refine(Any8.slices_Grow_room Tryz.growRow none 0 0 0 w (Nat.le_refl _) (by omega) (by omega) (by omega)).mono ?_
  rintro e w' ⟨rfl,rfl⟩
  exact⟨_,rfl,OwnOf.nil _ _ _ _ _,Ext.refl _⟩
 ·refine(Any8.slices_Grow_grow Tryz.growRow i0 _ hi hz0 (by rw [hz1];decide) none 0 0 n [] w (Nat.le_refl _) (by omega) (by rw [hz2];omega) (by omega) (by simp) (fun _=>rfl) (fun a h=>by cases h)).mono ?_
  rintro e w' ⟨rfl,rfl⟩
  have hg:=grownCap_ge w (0+n) 0 (Tryz.growRow_ren.t 25)
  have hg2:=grownCap_le_maxLen w (0+n) 0 (Tryz.growRow_ren.t 25) (by unfold maxLen;omega)
  refine⟨_,rfl,⟨[],trivial,?_⟩,(Ext.refl w).drew.alloc _⟩
  refine World.ownsRow_made w.drew _ _ (Nat.le_refl _) hg2 ?_
  generalize grownCap w (0+n) 0 (Tryz.growRow_ren.t 25)=cap at hg
  rw [show Rep.row.size=2 from rfl]
  simp [size_zeroCells,Value.cells]
  omega
set_option maxHeartbeats 2000000 in
theorem concat_row (T:Nat→Prop) (v:Value) (ls:List (List Row)) (w:World) (hv:SliceOf (Rep.slice Rep.row) (on w T) v ls) (hbig:ls.flatten.length≤1099511627776) :
  Calls Tryz.prog 96 #[v] w fun e w'=> ∃v',e = .returned v'∧OwnOf Rep.row w' T w.heap.size 58 v' ls.flatten∧Ext w w':=by
 obtain⟨i0,hi,hz0,hz1,hz2⟩:=info_parts infoRow
 obtain⟨pa,ca,rfl,ha1,ha2,ha3⟩:=hv.form
 have HV:=Lib.hid hv
 unfold maxLen at ha2
 go_enter Tryz.func96,Tryz.ntmps96
 go_wp2_with fail
 go_loopg [3,11] ls.length (fun gk n i wr=> ∃k m:Nat,k≤ls.length∧gk=ls.length - k∧i = .int .i64 k∧n = .int .i64 m∧m=(ls.take k).flatten.length∧w=wr)
 case atStart=>exact⟨0,0,by omega,rfl,rfl,rfl,by simp,rfl⟩
 case round =>
  obtain⟨k,m,hk,rfl,rfl,rfl,hm,rfl⟩:=hrel
  have hle:=flatten_take_le ls k
  by_cases hlt:k<ls.length
  ·obtain⟨ba,oa,rfl⟩:=ha3 (by decide) (by omega)
   obtain⟨u,c1,s1⟩:=slice_atT hv k hlt
   have ht:=flatten_take ls k hlt
   have hle2:=flatten_take_le ls (k+1)
   obtain⟨p1,q1,rfl,hq1,hq2,_⟩:=s1.form
   have hml:(ls.take (k+1)).flatten.length=m+ls[k].length:=by rw [ht,List.length_append,hm]
   rw [hml]at hle2
   rw [←hm]at hle
   generalize ls[k].length=n1 at hml hle2 hq1 c1 s1
   have HL:=Lib.hid hml
   have HM:=Lib.hid hm
   unfold maxLen at hq2
   have hd:decide ((k:Int)<(ls.length:Int))=true:=by simp;omega
   have hd1:(k:Int)<(ls.length:Int):=by omega
   have hd2:decide ((m:Int)+(n1:Int)<0)=false:=by simp;omega
   clear s1 ht hml hm hv ha3
   go_wp2_with fail
   go_roundg (ls.length - (k+1))
   case measure=>omega
   case rel=>exact⟨k+1,m+n1,by omega,rfl,by go_num,by go_num,HL.out.symm,rfl⟩
  ·have:k=ls.length:=by omega
   subst this
   rw [List.take_length]at hm
   have hmb:m≤1099511627776:=by rw [hm];exact hbig
   clear hv hle hm
   have HB:=Lib.hid hbig
   clear hbig
   go_wp2_with fail
   refine(grow_row T m _ hmb).mono ?_
   rintro e w1 ⟨v1,rfl,hown,hx⟩
   have HO:=Lib.hid hown
   clear hown
   go_wp2_with fail
   go_loopg [6,27] ls.length (fun gk v i wr=> ∃k:Nat,k≤ls.length∧gk=ls.length - k∧i = .int .i64 k∧OwnOf Rep.row wr T w.heap.size 58 v (ls.take k).flatten∧Ext w wr)
   case atStart=>exact⟨0,by omega,rfl,rfl,by simpa using HO.out,hx⟩
   case round =>
    clear HO hx
    obtain⟨k,hk,rfl,rfl,hown,hx⟩:=hrel
    by_cases hlt:k<ls.length
    ·obtain⟨ba,oa,rfl⟩:=ha3 (by decide) (by omega)
     obtain⟨u,c1,s1⟩:=slice_atT HV.out k hlt
     have ht:=flatten_take ls k hlt
     have hle2:=flatten_take_le ls (k+1)
     have HO:=Lib.hid hown
     have hbg:=Nat.le_trans hle2 HB.out
     rw [ht,List.length_append]at hbg
     have hsub : ∀v',OwnOf Rep.row wr T w.heap.size 58 v' (ls.take k).flatten→Sub (on w T) (on wr (avoid T v')):=fun v' ho p u e=>by
      obtain⟨e1,e⟩:=on_some.1 e
      have hlt2:=World.block_lt_of_cell? w p e
      refine on_some.2 ⟨⟨fun he=> ?_,e1⟩,hx.at e⟩
      have:=(ho.lt _ he.symm).1
      omega
     replace s1:=s1.ext (hsub _ hown)
     replace c1:=hx.at c1
     generalize ls[k]=x at s1 ht hbg
     have HT:=Lib.hid ht
     have HG:=Lib.hid hbg
     have S1:=Lib.hid s1
     obtain⟨p1,q1,rfl,hq1,hq2,_⟩:=s1.form
     have hd:decide ((k:Int)<(ls.length:Int))=true:=by simp;omega
     have hd1:(k:Int)<(ls.length:Int):=by omega
     clear s1 ht hbg hown ha3 hle2 hsub
     go_wp2_with (at_builtin;refine wpList_append_all Rep.row T rfl _ _ 40 rfl w.heap.size 58 i0 _ 48 Tryz.underlying40 hi hz0 hz1 hz2 rfl (by decide) _ (ls.take k).flatten rfl HO.out _ x rfl S1.out ?c1 ?c2 ?c3 ?_)
     case c1=>have:=HG.out;unfold maxLen;omega
     case c2=>have:=HG.out;omega
     case c3=>exact hx.size
     intro v' w3 hown3 hgr _
     go_wp2_with fail
     go_roundg (ls.length - (k+1))
     case measure=>omega
     case rel=>exact⟨k+1,by omega,rfl,by go_num,by rw [HT.out];exact hown3,Below.grown hx hgr hx.size (fun j hj=>(HO.out.lt j hj).1)⟩
    ·have:k=ls.length:=by omega
     subst this
     rw [List.take_length]at hown
     have HO:=Lib.hid hown
     clear hown ha3
     go_wp2_with fail
     go_ret
     exact⟨_,rfl,HO.out,hx⟩
end Go.Proofs.YtombmdaohcjokaaGreatDoor
namespace Go.Proofs.YtombmdaohcjokaaGreatDoor
open Go.RowKit
theorem legN_nat {n:Nat} {i:Int} (h:legN n i=true) : ∃j:Nat,i=j∧j<n:=by
 unfold legN at h
 simp only [Bool.and_eq_true,decide_eq_true_eq]at h
 exact⟨i.toNat,by omega,by omega⟩
theorem getD_nat {done:List (List Int)} {j:Nat} (h:j<done.length):done.getD ((j:Int)).toNat []=done[j]:=by
 rw [Int.toNat_natCast,List.getD_eq_getElem?_getD,List.getElem?_eq_getElem h]
 rfl
set_option maxRecDepth 100000 in
set_option maxHeartbeats 8000000 in
theorem input_any (C:Nat) (q:QueryI) (types:List TypI) (vc:Value) (done:List (List Int)) (x:NodeI) (ve va:Value) (w:World) (hX:CkA w C q types vc done) (he:SliceOf Rep.int w.cell? ve x.exprs) (hg:SliceOf Rep.agg w.cell? va x.aggs) (hla:legN done.length x.a=true) (hlb:binK x.kind=true→legN done.length x.b=true) (hD : ∀l∈done,l.length≤1000) :
  Calls Tryz.prog 145 #[.pointer (some ⟨C,0,none⟩),nodeV x ve va] w fun e w'=> ∃v,e = .returned v∧SliceOf Rep.int (on w' (avoid (fun b=>b≠C) vc)) v (inputC done x)∧Ext w w':=by
 have mixed:=mixedA
 obtain⟨p1,c1,rfl,_,_,hp1⟩:=he.form
 obtain⟨p2,c2,rfl,_,_,hp2⟩:=hg.form
 have HP1:=Lib.hid hp1
 have HP2:=Lib.hid hp2
 clear hp1 hp2
 obtain⟨xk,xa,xb,xp,xt,xe,xg⟩:=x
 dsimp only at he hg hla hlb ⊢
 obtain⟨n1,hn1⟩ : ∃n,n=xe.length:=⟨_,rfl⟩
 obtain⟨n2,hn2⟩ : ∃n,n=xg.length:=⟨_,rfl⟩
 rw [←hn1,←hn2]
 rw [←hn1]at he
 rw [←hn2]at hg
 have HX:=Lib.hid hX
 have HE:=Lib.hid he
 have HGG:=Lib.hid hg
 have HN1:=Lib.hid hn1
 have HN2:=Lib.hid hn2
 clear he hg hn1 hn2
 obtain⟨ja,rfl,hja⟩:=legN_nat hla
 have cc:=hX.cc
 obtain⟨G,cap,ua,rfl,ga,sa⟩:=own_row hX.own ja hja
 obtain⟨pa,ca,rfl,_⟩:=sa.form
 have HLA:=Lib.hid (hD _ (List.getElem_mem hja))
 have HGA:=Lib.hid (getD_nat hja)
 obtain⟨nd,hnd⟩ : ∃n,n=done.length:=⟨_,rfl⟩
 generalize done[ja]=xv at *
 obtain⟨na,hna⟩ : ∃n,n=xv.length:=⟨_,rfl⟩
 rw [←hna]at ga sa
 rw [←hnd]at cc
 have HSA:=Lib.hid sa
 have HNA:=Lib.hid hna
 have HND:=Lib.hid hnd
 have hjn:(ja:Int)<(nd:Int):=by omega
 have hjc:ja<nd:=by omega
 have eg:=cell_lt ga
 have ec:=cell_lt cc
 cases hk:binK xk
 ·have HK:=Lib.hid hk
  have HI:=Lib.hid (show inputC done ⟨xk,ja,xb,xp,xt,xe,xg⟩=xv from by unfold inputC;rw [if_neg (by rw [hk];decide),HGA.out])
  clear hX sa hna hnd hla hlb hD hk hja
  go_enter Tryz.func145,Tryz.ntmps145
  go_wp2_with fail
  refine(isBinary_any xk _).mono ?_
  rintro e w1 ⟨rfl,rfl⟩
  rw [HK.out]
  go_wp2_with fail
  go_big_region_o
  go_wp2_with fail
  go_ret
  exact⟨_,rfl,by rw [HI.out,HNA.out];exact(by have h:=HSA.out;rw [HNA.out]at h;exact h.ext (Ext.sub ((Ext.refl w).alloc _).drew _)),((Ext.refl w).alloc _).drew⟩
 ·obtain⟨jb,rfl,hjb⟩:=legN_nat (hlb hk)
  obtain⟨G',cap',ub,e2,gb,sb⟩:=own_row hX.own jb hjb
  obtain⟨rfl,rfl⟩:G=G'∧cap=cap':=by
   injection e2 with e2 e3 e4
   injection e2 with e2
   injection e2 with e2
   exact⟨e2,e4⟩
  obtain⟨pb,cb,rfl,_⟩:=sb.form
  have HLB:=Lib.hid (hD _ (List.getElem_mem hjb))
  have HGB:=Lib.hid (getD_nat hjb)
  generalize done[jb]=yv at *
  obtain⟨nb,hnb⟩ : ∃n,n=yv.length:=⟨_,rfl⟩
  rw [←hnb]at gb sb
  have HSB:=Lib.hid sb
  have HNB:=Lib.hid hnb
  have hjn2:(jb:Int)<(nd:Int):=by omega
  have hjc2:jb<nd:=by omega
  have HK:=Lib.hid hk
  have HI:=Lib.hid (show inputC done ⟨xk,ja,jb,xp,xt,xe,xg⟩=xv++yv from by unfold inputC;rw [if_pos hk,HGA.out,HGB.out])
  have HFL:=Lib.hid (show ([xv,yv]:List (List Int)).flatten=xv++yv from by simp)
  clear hX sa hna hnd hla hlb hD hk hja sb hnb hjb e2
  go_enter Tryz.func145,Tryz.ntmps145
  go_wp2_with fail
  refine(isBinary_any xk _).mono ?_
  rintro e w1 ⟨rfl,rfl⟩
  rw [HK.out]
  go_wp2_with fail
  obtain⟨W1,hW1⟩ : ∃W1,W1=(w.alloc (.cells #[.int .i64 xk,.int .i64 ja,.int .i64 jb,.int .i64 xp,.string xt,.slice p1 n1 c1,.slice p2 n2 c2] 64)):=⟨_,rfl⟩
  obtain⟨B,hB⟩ : ∃B,B=w.heap.size:=⟨_,rfl⟩
  have hxx:Ext w W1:=by rw [hW1];exact(Ext.refl w).alloc _
  have a0:W1.cell? ⟨B,0,none⟩=some (.int .i64 xk):=by rw [hW1,hB];go_simp
  have a1:W1.cell? ⟨B,1,none⟩=some (.int .i64 ja):=by rw [hW1,hB];go_simp
  have a2:W1.cell? ⟨B,2,none⟩=some (.int .i64 jb):=by rw [hW1,hB];go_simp
  have a3:W1.cell? ⟨B,3,none⟩=some (.int .i64 xp):=by rw [hW1,hB];go_simp
  have a4:W1.cell? ⟨B,4,none⟩=some (.string xt):=by rw [hW1,hB];go_simp
  have a5:W1.cell? ⟨B,5,none⟩=some (.slice p1 n1 c1):=by rw [hW1,hB];go_simp
  have a6:W1.cell? ⟨B,6,none⟩=some (.slice p2 n2 c2):=by rw [hW1,hB];go_simp
  rw [←hB,←hW1]
  have HLIT:=Lib.hid (show ∀wz,Ext w wz→SliceOf (Rep.slice Rep.int) (wz.alloc (.cells #[.slice pa na ca,.slice pb nb cb] 29)).cell? (.slice (some ⟨wz.heap.size,0,none⟩) 2 2) [xv,yv]from fun wz hz =>
   slice_lit (Rep.slice Rep.int) wz [.slice pa na ca,.slice pb nb cb] 29 [[.slice pa na ca],[.slice pb nb cb]] [xv,yv] rfl ⟨⟨_,rfl,(HSA.out.ext (on_sub _ _)).ext (hz.alloc _).full⟩,⟨_,rfl,(HSB.out.ext (on_sub _ _)).ext (hz.alloc _).full⟩,trivial⟩ (by simp [maxLen]))
  have hS0:Ext w W1.drew∧W1.drew.cell? ⟨C,3,none⟩=some (.slice (some ⟨G,0,none⟩) nd cap)∧W1.drew.cell? ⟨B,1,none⟩=some (.int .i64 ja)∧W1.drew.cell? ⟨B,2,none⟩=some (.int .i64 jb)∧W1.drew.cell? ⟨G,ja,none⟩=some (.slice pa na ca)∧W1.drew.cell? ⟨G,jb,none⟩=some (.slice pb nb cb):=⟨hxx.drew,hxx.at cc,a1,a2,hxx.at ga,hxx.at gb⟩
  obtain⟨n3,hn3⟩ : ∃n,n=(xv++yv).length:=⟨_,rfl⟩
  have HN3:=Lib.hid hn3
  clear a0 a1 a2 a3 a4 a5 a6 cc ga gb hW1 hB hn3
  go_region_held3 (fun w'=>Ext w w'∧w'.cell? ⟨C,3,none⟩=some (.slice (some ⟨G,0,none⟩) nd cap)∧w'.cell? ⟨B,1,none⟩=some (.int .i64 ja)∧w'.cell? ⟨B,2,none⟩=some (.int .i64 jb)∧w'.cell? ⟨G,ja,none⟩=some (.slice pa na ca)∧w'.cell? ⟨G,jb,none⟩=some (.slice pb nb cb))
   (first |with_reducible assumption | with_reducible exact keepE5 (by assumption) x2 | with_reducible exact keepE5 (by assumption) ((Ext.refl _).alloc _))
   (first
    |(go_at_call 69;refine(concat_ints _ [xv,yv] _ (by first | exact HLIT.out _ hxx.drew | exact(HLIT.out _ hxx).ext (Ext.refl _).drew.full) (by have h1:=HLA.out;have h2:=HLB.out;simp;omega)).mono ?_;rintro e w2 ⟨v2,rfl,o2,x2⟩;rw [HFL.out]at o2;have S2:=Lib.hid (o2.fresh flat_int);obtain⟨p3,q3,rfl,_⟩:=o2.slice.form;rw [←HN3.out]at S2 ⊢;have HFIT:=Lib.hid (show Ext w w2 from by first | exact(hxx.drew.alloc _).trans x2 | exact(hxx.alloc _).drew.trans x2);clear o2)
    |fail)
  all_goals
   clear hS0
   go_wp2_with fail
   go_ret
   refine⟨_,rfl,?_,HFIT.out⟩
   rw [HI.out]
   exact HX.out.new (S2.out.ext (on_mono _ fun k _ hk=>Nat.le_trans (Nat.le_trans hxx.size (by first | exact Nat.le_refl _ | simp)) hk))
theorem checkE_ok {es:List ExprI} {cols:List Int} {root:Int} (h:ResOk es cols):okI (checkE es cols root).1:=by
 unfold checkE
 split
 ·exact okI_sml (by decide) (by decide)
 split
 ·exact okI_sml (by decide) (by decide)
 rename_i h2
 rw [chkAll_get es cols (root.toNat+1) root.toNat (by omega)]
 exact h root.toNat
set_option maxRecDepth 100000 in
set_option maxHeartbeats 8000000 in
theorem predicate_any (C:Nat) (q:QueryI) (types:List TypI) (vc:Value) (done:List (List Int)) (x:NodeI) (ve va:Value) (w:World) (hX:CkA w C q types vc done) (he:SliceOf Rep.int w.cell? ve x.exprs) (hg:SliceOf Rep.agg w.cell? va x.aggs) (hla:legN done.length x.a=true) (hlb:binK x.kind=true→legN done.length x.b=true) (hD : ∀l∈done,l.length≤1000) :
  Calls Tryz.prog 144 #[.pointer (some ⟨C,0,none⟩),nodeV x ve va] w fun e w'=>e = .returned (.int .i64 (predC q.exprs (inputC done x) x.pred))∧Ext w w':=by
 have mixed:=mixedA
 obtain⟨p1,c1,rfl,_,_,hp1⟩:=he.form
 obtain⟨p2,c2,rfl,_,_,hp2⟩:=hg.form
 have HP1:=Lib.hid hp1
 have HP2:=Lib.hid hp2
 clear hp1 hp2
 obtain⟨xk,xa,xb,xp,xt,xe,xg⟩:=x
 dsimp only at he hg hla hlb ⊢
 obtain⟨n1,hn1⟩ : ∃n,n=xe.length:=⟨_,rfl⟩
 obtain⟨n2,hn2⟩ : ∃n,n=xg.length:=⟨_,rfl⟩
 rw [←hn1,←hn2]
 rw [←hn1]at he
 rw [←hn2]at hg
 have HX:=Lib.hid hX
 have HE:=Lib.hid he
 have HGG:=Lib.hid hg
 have HN1:=Lib.hid hn1
 have HN2:=Lib.hid hn2
 clear he hg hn1 hn2
 have HLA:=Lib.hid hla
 have HLB:=Lib.hid hlb
 have HD:=Lib.hid hD
 obtain⟨vE,k1,sE⟩:=hX.ee
 obtain⟨pE,cE,rfl,_⟩:=sE.form
 have HSE:=Lib.hid sE
 obtain⟨nE,hnE⟩ : ∃n,n=q.exprs.length:=⟨_,rfl⟩
 rw [←hnE]at k1 HSE
 have HNE:=Lib.hid hnE
 obtain⟨cols,hcols⟩ : ∃z,z=inputC done ⟨xk,xa,xb,xp,xt,xe,xg⟩:=⟨_,rfl⟩
 have HCO:=Lib.hid hcols
 have HEO:=Lib.hid (fun x hx=>(expr_ok sE x hx).2)
 have ek:=cell_lt k1
 rw [←hcols]
 obtain⟨K,hK⟩ : ∃z,z=(checkE q.exprs cols xp).1:=⟨_,rfl⟩
 obtain⟨R,hR⟩ : ∃z,z=(checkE q.exprs cols xp).2:=⟨_,rfl⟩
 have HKR:=Lib.hid (And.intro hK hR)
 obtain⟨Z,hZ⟩ : ∃z,z=predC q.exprs cols xp:=⟨_,rfl⟩
 have HPC:=Lib.hid (show Z=if R=0∧K≠3∧K≠0 then 7 else R from by rw [hZ,hK,hR];rfl)
 rw [←hZ]
 clear hX hla hlb hD sE hnE hcols hK hR hZ
 go_enter Tryz.func144,Tryz.ntmps144
 go_wp2_with fail
 obtain⟨W1,hW1⟩ : ∃W1,W1=(w.alloc (.cells #[.int .i64 xk,.int .i64 xa,.int .i64 xb,.int .i64 xp,.string xt,.slice p1 n1 c1,.slice p2 n2 c2] 64)):=⟨_,rfl⟩
 obtain⟨B,hB⟩ : ∃B,B=w.heap.size:=⟨_,rfl⟩
 have hxx:Ext w W1:=by rw [hW1];exact(Ext.refl w).alloc _
 have a0:W1.cell? ⟨B,0,none⟩=some (.int .i64 xk):=by rw [hW1,hB];go_simp
 have a1:W1.cell? ⟨B,1,none⟩=some (.int .i64 xa):=by rw [hW1,hB];go_simp
 have a2:W1.cell? ⟨B,2,none⟩=some (.int .i64 xb):=by rw [hW1,hB];go_simp
 have a3:W1.cell? ⟨B,3,none⟩=some (.int .i64 xp):=by rw [hW1,hB];go_simp
 have a4:W1.cell? ⟨B,4,none⟩=some (.string xt):=by rw [hW1,hB];go_simp
 have a5:W1.cell? ⟨B,5,none⟩=some (.slice p1 n1 c1):=by rw [hW1,hB];go_simp
 have a6:W1.cell? ⟨B,6,none⟩=some (.slice p2 n2 c2):=by rw [hW1,hB];go_simp
 rw [←hB,←hW1]
 have hS0:Ext w W1.drew∧W1.drew.cell? ⟨C,1,none⟩=some (.slice pE nE cE)∧W1.drew.cell? ⟨B,0,none⟩=some (.int .i64 xk)∧W1.drew.cell? ⟨B,1,none⟩=some (.int .i64 xa)∧W1.drew.cell? ⟨B,2,none⟩=some (.int .i64 xb)∧W1.drew.cell? ⟨B,3,none⟩=some (.int .i64 xp)∧W1.drew.cell? ⟨B,4,none⟩=some (.string xt)∧W1.drew.cell? ⟨B,5,none⟩=some (.slice p1 n1 c1)∧W1.drew.cell? ⟨B,6,none⟩=some (.slice p2 n2 c2):=⟨hxx.drew,hxx.at k1,a0,a1,a2,a3,a4,a5,a6⟩
 clear a0 a1 a2 a3 a4 a5 a6 k1 hW1 hB
 go_region_held3 (fun w'=>Ext w w'∧w'.cell? ⟨C,1,none⟩=some (.slice pE nE cE)∧w'.cell? ⟨B,0,none⟩=some (.int .i64 xk)∧w'.cell? ⟨B,1,none⟩=some (.int .i64 xa)∧w'.cell? ⟨B,2,none⟩=some (.int .i64 xb)∧w'.cell? ⟨B,3,none⟩=some (.int .i64 xp)∧w'.cell? ⟨B,4,none⟩=some (.string xt)∧w'.cell? ⟨B,5,none⟩=some (.slice p1 n1 c1)∧w'.cell? ⟨B,6,none⟩=some (.slice p2 n2 c2))
  (first |with_reducible assumption | with_reducible exact keepE8 (by assumption) x2 | with_reducible exact keepE8 (by assumption) x3)
  (first
   |(go_at_call 145;refine(input_any C q types vc done ⟨xk,xa,xb,xp,xt,xe,xg⟩ (.slice p1 n1 c1) (.slice p2 n2 c2) _ (HX.out.ext hxx.drew) (HE.out.ext hxx.drew.full) (HGG.out.ext hxx.drew.full) HLA.out HLB.out HD.out).mono ?_;rintro e w2 ⟨v2,rfl,s2,x2⟩;rw [←HCO.out]at s2;have S2:=Lib.hid s2;obtain⟨p3,q3,rfl,_⟩:=s2.form;have X2:=Lib.hid (show Ext w w2 from hxx.drew.trans x2);clear s2)
   |(go_at_call 201;refine(exprCheck_any _ _ q.exprs cols xp _ ((HSE.out.ext (on_sub _ _)).ext X2.out.full) (S2.out.ext (on_sub _ _))).mono ?_;rintro e w3 ⟨rfl,x3⟩;have HFIT:=Lib.hid (show Ext w w3 from X2.out.trans x3);have HX23:=Lib.hid (show Ext W1 w3 from (Ext.refl _).drew.trans (x2.trans x3));have HOK:=Lib.hid (checkE_ok (root:=xp) (resOk HEO.out (ints_ok S2.out))))
   |fail)
 all_goals
  rw [←HKR.out.1,←HKR.out.2]
  clear hS0 x2 x3
  by_cases h0:R=0
  ·have b0:(R==0)=true:=by simp [h0]
   by_cases h1:K=3
   ·have b1:(K != 3)=false:=by simp [h1]
    have HZ:=Lib.hid (show Z=R from by rw [HPC.out,if_neg (fun h=>h.2.1 h1)])
    clear h0 h1
    go_wp2_with fail
    go_ret
    exact⟨by rw [HZ.out];rfl,HFIT.out⟩
   ·have b1:(K != 3)=true:=by simp [h1]
    by_cases h2:K=0
    ·have b2:(K != 0)=false:=by simp [h2]
     have HZ:=Lib.hid (show Z=R from by rw [HPC.out,if_neg (fun h=>h.2.2 h2)])
     clear h0 h1 h2
     go_wp2_with fail
     go_ret
     exact⟨by rw [HZ.out];rfl,HFIT.out⟩
    ·have b2:(K != 0)=true:=by simp [h2]
     have HZ:=Lib.hid (show Z=7 from by rw [HPC.out,if_pos ⟨h0,h1,h2⟩])
     clear h0 h1 h2
     go_wp2_with fail
     go_ret
     exact⟨by rw [HZ.out];rfl,HFIT.out⟩
  ·have b0:(R==0)=false:=by simp [h0]
   have HZ:=Lib.hid (show Z=R from by rw [HPC.out,if_neg (fun h=>h0 h.1)])
   clear h0
   go_wp2_with fail
   go_ret
   exact⟨by rw [HZ.out];rfl,HFIT.out⟩
end Go.Proofs.YtombmdaohcjokaaGreatDoor
