/- joined texts of a proof: EvaE -/
import Derived.Test.YtombmdaohcjokaaGreatDoorKX12
import Derived.Test.YtombmdaohcjokaaGreatDoorKX06
import Derived.Test.YtombmdaohcjokaaGreatDoorKX13
namespace Go.Proofs.YtombmdaohcjokaaGreatDoor
open Go.RowKit Go.Maps Go.Deep
noncomputable def ksG (es:List ExprI) (keys:List Int) (A:List Row):List (List Val):=if keys.length=0 then [[]]else firsts (A.map fun r=>projE es keys r.vals)
theorem ksG_len (es:List ExprI) (keys:List Int) (A:List Row):(ksG es keys A).length≤A.length+1:=by
 unfold ksG
 split
 ·simp
 ·exact Nat.le_succ_of_le (Nat.le_trans (firsts_len _) (by rw [List.length_map];exact Nat.le_refl _))
theorem ksG_zero {es:List ExprI} {keys:List Int} {A:List Row} (h:keys.length=0):ksG es keys A = [[]]∧(ksG es keys A).map (selS (projE es keys) A) = [A]:=by
 unfold ksG
 rw [if_pos h]
 refine⟨rfl,?_⟩
 have hk:keys = []:=List.eq_nil_of_length_eq_zero h
 subst hk
 rw [List.map_cons,List.map_nil]
 congr 1
 exact List.filter_eq_self.2 fun r _=>by simp [projE]
theorem ksG_key {es:List ExprI} {keys:List Int} {A:List Row} {kv:List Val} (h:kv∈ksG es keys A):kv.length=keys.length:=by
 unfold ksG at h
 split at h
 ·rename_i h0
  rw [List.mem_singleton.1 h,h0]
  rfl
 ·obtain⟨r,_,rfl⟩:=List.mem_map.1 (((firsts_law _).2 _).1 h)
  exact projE_len es keys r.vals
def aggV1 (es:List ExprI) (a:AggI) (vss:List (List Val)):Val:=aggE es a.kind a.arg vss
theorem aggsE_take (es:List ExprI) (aggs:List AggI) (vss:List (List Val)):aggsE es aggs vss=aggs.map fun a=>aggV1 es a vss:=rfl
theorem map_takeR {α β:Type} (f:α→β) (l:List α) (k:Nat) (h:k<l.length):(l.take (k+1)).map f=(l.take k).map f ++ [f l[k]]:=by
 rw [List.take_succ_eq_append_getElem h,List.map_append,List.map_cons,List.map_nil]
theorem rows_ok {h:View} {v:Value} {rows:List Row} (k:SliceOf Rep.row h v rows) : ∀r∈rows,∀x∈r.vals,okVal x:=fun r hr x hx=>by
 obtain⟨i,hi,rfl⟩:=List.getElem_of_mem hr
 obtain⟨css,h1,_⟩:=k
 obtain⟨c,⟨a,b,_,g1,_⟩,_⟩:=h1.at i hi
 exact vals_ok g1 x hx
theorem fit_projE {es:List ExprI} (he : ∀e∈es,e.c.s.size≤1048576) {vals:List Val} (hv : ∀v∈vals,v.s.size≤1048576) (keys:List Int) : ∀y∈projE es keys vals,y.s.size≤1048576:=fun y hy=>by
 obtain⟨k,_,rfl⟩:=List.mem_map.1 hy
 exact fit_evalE he hv k
theorem ok_aggE2 {es:List ExprI} (he : ∀x∈es,okVal x.c) {vss:List (List Val)} (h : ∀vs∈vss,∀v∈vs,okVal v) (hl:vss.length≤1048576) (kind arg:Int):okVal (aggE es kind arg vss):=by
 rw [aggE_R]
 refine ok_aggR kind (fun v hv=> ?_) (by rw [List.length_map];exact hl)
 obtain⟨vs,h1,rfl⟩:=List.mem_map.1 hv
 exact ok_evalE he (h vs h1) _
theorem aggregate_all (v:Value) (es:List ExprI) (kind:Int) (root:Int) (mv:Value) (vss:List (List Val)) (w:World) (he:SliceOf Rep.expr w.cell? v es) (hel:es.length≤1000) (hm:SliceOf (Rep.slice Rep.val) w.cell? mv vss) (hml:vss.length≤4096) :
  Calls Tryz.prog 130 #[v,.agg #[.int .i64 kind,.int .i64 root],mv] w fun e w'=>e = .returned (valV (aggE es kind root vss))∧Ext w w':=by
 by_cases hk:kind=1
 ·subst hk
  obtain⟨p,c,rfl,-⟩:=hm.form
  have e:aggE es 1 root vss=intVal (vss.length:Nat):=by unfold aggE;rw [if_pos rfl]
  rw [e]
  exact aggregate_count v p vss.length c root w
 ·exact aggregate_gen v es kind root mv vss w he hel hm hml hk
structure RowBox (w0 W:World) (rb:Nat) (pv:Option Addr) (cv:Nat) (vs:List Val) (pl:Option Addr) (cl:Nat) (ls:List Int) (L0 L1:Nat):Prop where
 c0:W.cell? ⟨rb,0,none⟩=some (.slice pv vs.length cv)
 c1:W.cell? ⟨rb,1,none⟩=some (.slice pl ls.length cl)
 f0:W.frozen? ⟨rb,0,none⟩=false
 ov:OwnOf Rep.val W (fun _=>True) w0.heap.size 61 (.slice pv vs.length cv) vs
 sl:SliceOf Rep.int (on W (fun x=>x≠rb∧L0≤x∧x<L1)) (.slice pl ls.length cl) ls
 vo : ∀x,(Value.slice pv vs.length cv).ownBlock=some x→x≠rb∧ ¬(L0≤x∧x<L1)
 ext:Ext w0 W
 lo:w0.heap.size≤rb∧w0.heap.size≤L0∧L1≤W.heap.size
theorem box2c {w2 w3:World} {z0 z1:Value} {T:TypeId} (h:Ext (w2.alloc (.cells #[z0,z1] T)) w3):(w3.cell? ⟨w2.heap.size,0,none⟩=some z0∧w3.cell? ⟨w2.heap.size,1,none⟩=some z1)∧w3.frozen? ⟨w2.heap.size,0,none⟩=false∧w3.frozen? ⟨w2.heap.size,1,none⟩=false:=by
 have c0:(w2.alloc (.cells #[z0,z1] T)).cell? ⟨w2.heap.size,0,none⟩=some z0:=by go_simp
 have c1:(w2.alloc (.cells #[z0,z1] T)).cell? ⟨w2.heap.size,1,none⟩=some z1:=by go_simp
 exact⟨⟨h.at c0,h.at c1⟩,h.unfrozen c0 (by go_simp),h.unfrozen c1 (by go_simp)⟩
theorem rowbox_mid {w0 w1 w2 w3:World} {pv pl:Option Addr} {cv cl:Nat} {vs:List Val} {ls:List Int} {T:TypeId} {z0 z1:Value} (h0:Ext w0 w1) (o2:OwnOf Rep.val w2 (fun _=>True) w1.heap.size 61 (.slice pv vs.length cv) vs) (x2:Ext w1 w2) (s3:SliceOf Rep.int (on w3 (since (w2.alloc (.cells #[z0,z1] T)))) (.slice pl ls.length cl) ls) (x3:Ext (w2.alloc (.cells #[z0,z1] T)) w3) :
  RowBox w0 ((w3.setCell ⟨w2.heap.size,0,none⟩ (.slice pv vs.length cv)).setCell ⟨w2.heap.size,1,none⟩ (.slice pl ls.length cl)) w2.heap.size pv cv vs pl cl ls (w2.heap.size+1) w3.heap.size:=by
 obtain⟨⟨y0,y1⟩,y2,y3⟩:=box2c x3
 have hs:w2.heap.size+1≤w3.heap.size:=by have h:=x3.size;rw [alloc_size]at h;exact h
 have hw:=h0.size
 have hw2:=x2.size
 have e0:=cell_lt y0
 have xx:Ext w2 w3:=((Ext.refl w2).alloc _).trans x3
 have hch:=(chg_set w3 ⟨w2.heap.size,0,none⟩ (.slice pv vs.length cv)).setCell (p:=⟨w2.heap.size,1,none⟩) (.inl rfl) (.slice pl ls.length cl)
 exact⟨by go_simp,by go_simp,by go_simp,((o2.ext xx).chg flat_val hch (fun k hk e=>by have:=(o2.lt k hk).2;dsimp only at e;omega)).weak (fun _ _ h=>h) hw,
  (s3.ext (on_mono w3 fun k hk h=>⟨by have h:(w2.alloc (.cells #[z0,z1] T)).heap.size≤k:=h;rw [alloc_size]at h;omega,by have h:(w2.alloc (.cells #[z0,z1] T)).heap.size≤k:=h;rw [alloc_size]at h;exact h,hk⟩)).chg hch (fun k hk e=>hk.1 e),
  fun x hx=>by have h1:=(o2.lt x hx).2;omega,Below.setCell (Below.setCell (h0.trans (x2.trans xx)) (Nat.le_trans hw hw2) _) (Nat.le_trans hw hw2) _,by simp [World.setCell];omega⟩
theorem rowbox_before {w1 w2 w3:World} {B2:Nat} {pv pl:Option Addr} {cv cl:Nat} {vs:List Val} {ls:List Int} {T:TypeId} {z0 z1:Value} (x2:Ext (w1.alloc (.cells #[z0,z1] T)) w2) (o2:OwnOf Rep.val w2 (fun _=>True) B2 61 (.slice pv vs.length cv) vs) (hB:w1.heap.size+1≤B2) (s3:SliceOf Rep.int (on w3 (since w2)) (.slice pl ls.length cl) ls) (x3:Ext w2 w3) :
  RowBox w1 ((w3.setCell ⟨w1.heap.size,0,none⟩ (.slice pv vs.length cv)).setCell ⟨w1.heap.size,1,none⟩ (.slice pl ls.length cl)) w1.heap.size pv cv vs pl cl ls w2.heap.size w3.heap.size:=by
 obtain⟨⟨y0,y1⟩,y2,y3⟩:=box2c (x2.trans x3)
 have hs:w1.heap.size+1≤w2.heap.size:=by have h:=x2.size;rw [alloc_size]at h;exact h
 have e0:=cell_lt y0
 have hch:=(chg_set w3 ⟨w1.heap.size,0,none⟩ (.slice pv vs.length cv)).setCell (p:=⟨w1.heap.size,1,none⟩) (.inl rfl) (.slice pl ls.length cl)
 exact⟨by go_simp,by go_simp,by go_simp,((o2.ext x3).chg flat_val hch (fun k hk e=>by have:=(o2.lt k hk).1;dsimp only at e;omega)).weak (fun _ _ h=>h) (by omega),
  (s3.ext (on_mono w3 fun k hk h=>⟨by have h:w2.heap.size≤k:=h;omega,h,hk⟩)).chg hch (fun k hk e=>hk.1 e),
  fun x hx=>by have h1:=o2.lt x hx;omega,Below.setCell (Below.setCell (((Ext.refl w1).alloc _).trans (x2.trans x3)) (Nat.le_refl _) _) (Nat.le_refl _) _,by simp [World.setCell];omega⟩
theorem rowbox_after {w0 w1 w2 w3:World} {pv pl:Option Addr} {cv cl:Nat} {vs:List Val} {ls:List Int} {T:TypeId} (h0:Ext w0 w1) (o2:OwnOf Rep.val w2 (fun _=>True) w1.heap.size 61 (.slice pv vs.length cv) vs) (x2:Ext w1 w2) (s3:SliceOf Rep.int (on w3 (since w2)) (.slice pl ls.length cl) ls) (x3:Ext w2 w3) :
  RowBox w0 (w3.alloc (.cells #[.slice pv vs.length cv,.slice pl ls.length cl] T)) w3.heap.size pv cv vs pl cl ls w2.heap.size w3.heap.size :=
 ⟨by go_simp,by go_simp,by go_simp,((o2.ext x3).ext ((Ext.refl w3).alloc _)).weak (fun _ _ h=>h) h0.size,(s3.ext (on_mono w3 fun k hk h=>⟨by omega,h,hk⟩)).ext (((Ext.refl w3).alloc _).sub _),
  fun x hx=>by
   have h1:=(o2.lt x hx).2
   have h2:=x3.size
   omega,(h0.trans (x2.trans x3)).alloc _,by
   have h1:=h0.size
   have h2:=x2.size
   have h3:=x3.size
   have h4:=((Ext.refl w3).alloc (.cells #[.slice pv vs.length cv,.slice pl ls.length cl] T)).size
   omega⟩
theorem cells_new2 (w:World) (o:Obj) (xs:List Value) (T:TypeId) : ∀j u,xs[j]?=some u→((w.alloc o).alloc (.cells xs.toArray T)).cell? ((⟨w.heap.size+1,0,none⟩:Addr).add j)=some u:=by
 have h:=cells_new (w.alloc o) xs T
 rwa [alloc_size]at h
structure ClsV (w:World) (T:Nat→Prop) (C:Nat) (ks:List (List Val)) (gs:List (List Row)):Prop where
 c1 : ∃vv,w.cell? ⟨C,1,none⟩=some vv∧SliceOf (Rep.slice Rep.val) (on w T) vv ks
 c2 : ∃rv,w.cell? ⟨C,2,none⟩=some rv∧SliceOf (Rep.slice Rep.row) (on w T) rv gs
theorem clsV_zero {W:World} {T:Nat→Prop} {C b1 b2:Nat} {pa:Option Addr} {nA ca:Nat} {A:List Row} (h1:W.cell? ⟨C,1,none⟩=some (.slice (some ⟨b1,0,none⟩) 1 1)) (h2:W.cell? ⟨C,2,none⟩=some (.slice (some ⟨b2,0,none⟩) 1 1)) (h3:W.cell? ⟨b1,0,none⟩=some (.slice none 0 0)) (h4:W.cell? ⟨b2,0,none⟩=some (.slice pa nA ca))
  (t1:T b1) (t2:T b2) (ha:SliceOf Rep.row (on W T) (.slice pa nA ca) A):ClsV W T C [[]] [A]:=by
 refine⟨⟨_,h1,[[.slice none 0 0]],⟨⟨_,rfl,SliceOf.nil _ _⟩,trivial⟩,.inr ⟨_,1,rfl,Nat.le_refl _,by simp [maxLen],.inr ⟨b1,0,rfl,fun j u hj=> ?_⟩⟩⟩,⟨_,h2,[[.slice pa nA ca]],⟨⟨_,rfl,ha⟩,trivial⟩,.inr ⟨_,1,rfl,Nat.le_refl _,by simp [maxLen],.inr ⟨b2,0,rfl,fun j u hj=> ?_⟩⟩⟩⟩
 ·match j,hj with
  |0,hj=>simp at hj;rw [←hj];exact on_some.2 ⟨t1,h3⟩
 ·match j,hj with
  |0,hj=>simp at hj;rw [←hj];exact on_some.2 ⟨t2,h4⟩
section
variable {w0 W2:World} {T:Nat→Prop} {C:Nat} {pa:Option Addr} {nA ca:Nat} {A:List Row} {T1 T2:TypeId} {x1 x2:Value}
theorem clsV_a (hx:Ext w0 W2) (hC:w0.heap.size≤C) (k1:W2.cell? ⟨C,1,none⟩=some x1) (k2:W2.cell? ⟨C,2,none⟩=some x2) (hT : ∀k,w0.heap.size≤k→T k) (ha:SliceOf Rep.row (on w0 T) (.slice pa nA ca) A) :
  ClsV ((((W2.setCell ⟨C,1,none⟩ (.slice (some ⟨W2.heap.size,0,none⟩) 1 1)).setCell ⟨C,2,none⟩ (.slice (some ⟨W2.heap.size+1,0,none⟩) 1 1)).alloc (.cells #[.slice none 0 0] T1)).alloc (.cells #[.slice pa nA ca] T2)).drew T C [[]] [A]∧Ext w0 ((((W2.setCell ⟨C,1,none⟩ (.slice (some ⟨W2.heap.size,0,none⟩) 1 1)).setCell ⟨C,2,none⟩ (.slice (some ⟨W2.heap.size+1,0,none⟩) 1 1)).alloc (.cells #[.slice none 0 0] T1)).alloc (.cells #[.slice pa nA ca] T2)).drew:=by
 have e1:=cell_lt k1
 have X:Ext w0 ((((W2.setCell ⟨C,1,none⟩ (.slice (some ⟨W2.heap.size,0,none⟩) 1 1)).setCell ⟨C,2,none⟩ (.slice (some ⟨W2.heap.size+1,0,none⟩) 1 1)).alloc (.cells #[.slice none 0 0] T1)).alloc (.cells #[.slice pa nA ca] T2)).drew:=(((Below.setCell (Below.setCell hx hC _) hC _).alloc (Nat.le_trans hx.size (by simp [World.setCell])) _).alloc (Nat.le_trans hx.size (by simp [World.setCell])) _).drew
 exact⟨clsV_zero (b1:=W2.heap.size) (b2:=W2.heap.size+1) (by go_simp) (by go_simp) (by go_simp) (by go_simp) (hT _ hx.size) (hT _ (Nat.le_succ_of_le hx.size)) (ha.ext (X.sub _)),X⟩
theorem clsV_b (hx:Ext w0 W2) (hC:w0.heap.size≤C) (k1:W2.cell? ⟨C,1,none⟩=some x1) (k2:W2.cell? ⟨C,2,none⟩=some x2) (hT : ∀k,w0.heap.size≤k→T k) (ha:SliceOf Rep.row (on w0 T) (.slice pa nA ca) A) :
  ClsV ((((W2.setCell ⟨C,1,none⟩ (.slice (some ⟨W2.heap.size+1,0,none⟩) 1 1)).setCell ⟨C,2,none⟩ (.slice (some ⟨W2.heap.size,0,none⟩) 1 1)).alloc (.cells #[.slice pa nA ca] T2)).alloc (.cells #[.slice none 0 0] T1)).drew T C [[]] [A]∧Ext w0 ((((W2.setCell ⟨C,1,none⟩ (.slice (some ⟨W2.heap.size+1,0,none⟩) 1 1)).setCell ⟨C,2,none⟩ (.slice (some ⟨W2.heap.size,0,none⟩) 1 1)).alloc (.cells #[.slice pa nA ca] T2)).alloc (.cells #[.slice none 0 0] T1)).drew:=by
 have e1:=cell_lt k1
 have X:Ext w0 ((((W2.setCell ⟨C,1,none⟩ (.slice (some ⟨W2.heap.size+1,0,none⟩) 1 1)).setCell ⟨C,2,none⟩ (.slice (some ⟨W2.heap.size,0,none⟩) 1 1)).alloc (.cells #[.slice pa nA ca] T2)).alloc (.cells #[.slice none 0 0] T1)).drew:=(((Below.setCell (Below.setCell hx hC _) hC _).alloc (Nat.le_trans hx.size (by simp [World.setCell])) _).alloc (Nat.le_trans hx.size (by simp [World.setCell])) _).drew
 exact⟨clsV_zero (b1:=W2.heap.size+1) (b2:=W2.heap.size) (by go_simp) (by go_simp) (by go_simp) (by go_simp) (hT _ (Nat.le_succ_of_le hx.size)) (hT _ hx.size) (ha.ext (X.sub _)),X⟩
end
set_option maxRecDepth 100000 in
set_option maxHeartbeats 4000000 in
theorem clone_ownV (v:Value) (l:List _) (w:World) (hv:SliceOf Rep.val w.cell? v l) (hbig:l.length*32≤140737488355328) :
  Calls Tryz.prog 155 #[v] w fun e w'=> ∃v',e = .returned v'∧OwnOf Rep.val w' (fun _=>True) w.heap.size 61 v' l∧Ext w w':=by
 have q22 : ∀(w:World) (a:Option Addr) (n c n' c':Nat),(binOp .eql 56 (.slice a n c) (.slice none n' c')).run Tryz.prog w = .ok (.bool a.isNone) w:=fun w a n c n' c'=>Lib.run_eql_slice_nil w _ _ a n c n' c' Tryz.underlying56
 obtain⟨i0,hi,hz0,hz1,hz2⟩:=info_parts info_val
 obtain⟨a,cap,rfl,hc1,hc2,_⟩:=hv.form
 cases a with
 |none =>
  have hl:l.length=0:=by
   obtain⟨css,h1,h2⟩:=hv
   rcases h2 with ⟨_,h0,_⟩ | ⟨ad,c,he,_⟩
   ·exact h0
   ·cases he
  have hln:l = []:=List.eq_nil_of_length_eq_zero hl
  subst hln
  go_enter Tryz.func155,Tryz.ntmps155
  go_wp2
  go_ret
  exact⟨_,rfl,OwnOf.nil _ _ _ _ _,Ext.refl w⟩
 |some ad =>
  have hw:SliceOf Rep.val (on (w.alloc (.cells #[] 61)) (avoid (fun _=>True) (.slice (some ⟨w.heap.size,0,none⟩) 0 0))) (.slice (some ad) l.length cap) l:=by
   by_cases hn:0<l.length
   ·have hx:=(Ext.refl w).alloc (.cells #[] 61)
    obtain⟨css,h1,h2⟩:=hv
    exact⟨css,h1.flatView flat_val,h2.sub fun p u hp=>on_some.2 ⟨⟨by have:=World.block_lt_of_cell? w p hp;simp [Value.ownBlock];omega,trivial⟩,hx.at hp⟩⟩
   ·obtain⟨css,h1,h2⟩:=hv
    have hln:l = []:=List.eq_nil_of_length_eq_zero (by omega)
    subst hln
    rcases h2 with ⟨he,_⟩ | ⟨ad',c',he,g1,g2,_⟩
    ·cases he
    ·injection he with e1 e2 e3
     injection e1 with e1
     subst e1 e3
     exact⟨[],trivial,.inr ⟨ad,cap,rfl,by simp,g2,.inl rfl⟩⟩
  have HW:=Lib.hid hw
  clear hv hw
  go_enter Tryz.func155,Tryz.ntmps155
  go_wp2_with (at_builtin;refine wpList_append_all Rep.val (fun _=>True) rfl _ _ 56 rfl w.heap.size 61 i0 _ 32 Tryz.underlying56 hi hz0 hz1 hz2 rfl (by decide) _ [] rfl (OwnOf.made _ w _ _) _ l rfl HW.out ?c1 ?c2 ?c3 ?_)
  case c1=>simp;omega
  case c2=>simpa using hbig
  case c3=>simp
  intro v' w1 hown hgr _
  go_wp2_with fail
  go_ret
  exact⟨v',rfl,(by simpa using hown),Below.grown (Below.alloc (Below.refl w.heap.size w) (Nat.le_refl _) _) hgr (by simp) (fun k hk=>by simp [Value.ownBlock]at hk;omega)⟩
set_option maxRecDepth 100000 in
set_option maxHeartbeats 16000000 in
theorem egroup_any (E:Nat) (q:QueryI) (db:List TabI) (cols:List (List Int)) (vr:Value) (done:List (List Row)) (x:NodeI) (ve va:Value) (w:World) (hX:EvA w E q db cols vr done) (he:SliceOf Rep.int w.cell? ve x.exprs) (hg:SliceOf Rep.agg w.cell? va x.aggs)
  (hla:legN done.length x.a=true) (hD : ∀l∈done,l.length≤4096) (hR : ∀l∈done,∀r∈l,fitE r) (hel:q.exprs.length≤1000) (hcs : ∀e∈q.exprs,e.c.s.size≤1048576) (hkl:x.exprs.length≤1000) (hgl:x.aggs.length≤1000) (hgk : ∀g∈x.aggs,1≤g.kind∧g.kind≤4) (ht:TabW w) :
  Calls Tryz.prog 100 #[.pointer (some ⟨E,0,none⟩),nodeV x ve va] w fun e w'=> ∃v,e = .returned v∧SliceOf Rep.row (on w' (avoid (fun b=>b≠E) vr)) v (groupP q.exprs x.exprs x.aggs (done.getD x.a.toNat []))∧Ext w w':=by
 have mixed:=mixedA
 obtain⟨i0,hi,hz0,hz1,hz2⟩:=info_parts infoRow
 obtain⟨i3,hi3,hz30,hz31,hz32⟩:=info_parts info_val3
 obtain⟨i4,hi4,hz40,hz41,hz42⟩:=info_parts info_valsE
 have hmm:= @run_makeMap Tryz.prog
 obtain⟨p1,c1,rfl,-⟩:=he.form
 obtain⟨p2,c2,rfl,_,_,hp2⟩:=hg.form
 obtain⟨xk,xa,xb,xp,xt,keys,aggs⟩:=x
 dsimp only at he hg hla hkl hgl hgk hp2 ⊢
 obtain⟨n1,hn1⟩ : ∃n,n=keys.length:=⟨_,rfl⟩
 obtain⟨n2,hn2⟩ : ∃n,n=aggs.length:=⟨_,rfl⟩
 rw [←hn1]at he ⊢
 rw [←hn2]at hg hp2 ⊢
 obtain⟨ja,rfl,hja⟩:=legN_nat hla
 rw [Int.toNat_natCast]
 obtain⟨T,hT⟩ : ∃T:Nat→Prop,T=avoid (fun b=>b≠E) vr:=⟨_,rfl⟩
 have HTT:=Lib.hid (show ∀k,w.heap.size≤k→T k from by rw [hT];exact hX.newT)
 obtain⟨G,cap,pa,nA,ca,hv1,ga,hnA,hpa,ha⟩:=hX.row hja
 have rr:=hX.rr
 rw [hv1]at rr
 obtain⟨pe,ee,re⟩:=hX.ee
 obtain⟨pE,cE,rfl,-⟩:=re.form
 have hla4:=hD (done.getD ja []) (by rw [List.getD_eq_getElem?_getD,List.getElem?_eq_getElem hja,Option.getD_some];exact List.getElem_mem hja)
 have hfa:=hR (done.getD ja []) (by rw [List.getD_eq_getElem?_getD,List.getElem?_eq_getElem hja,Option.getD_some];exact List.getElem_mem hja)
 rw [←hT]at ha re ⊢
 obtain⟨nd,hnd⟩ : ∃n,n=done.length:=⟨_,rfl⟩
 obtain⟨nE,hnE⟩ : ∃n,n=q.exprs.length:=⟨_,rfl⟩
 rw [←hnd]at rr hja
 rw [←hnE]at ee re
 generalize done.getD ja []=A at *
 generalize q.exprs=es at *
 have HA:=Lib.hid ha
 have HE:=Lib.hid (re.ext (on_sub _ _))
 have HOKC:=Lib.hid (expr_oks re)
 have HNE:=Lib.hid hnE
 have HEL:=Lib.hid hel
 have HCS:=Lib.hid hcs
 have HFA:=Lib.hid hfa
 have HLA:=Lib.hid hla4
 have HPA:=Lib.hid hpa
 have HNA:=Lib.hid hnA
 have HTW:=Lib.hid ht
 have HKE:=Lib.hid he
 have HGG:=Lib.hid hg
 have HPG:=Lib.hid hp2
 have HN1:=Lib.hid hn1
 have HN2:=Lib.hid hn2
 have HGK:=Lib.hid hgk
 have HKLB:=Lib.hid hkl
 have hnA5:nA≤4096:=by omega
 have hn1B:n1≤1000:=by omega
 have hn2B:n2≤1000:=by omega
 have hxA:(ja:Int)<(nd:Int):=by omega
 have e0:=cell_lt rr
 have e1:=cell_lt ga
 clear hX hv1 ha re hla4 hfa hpa hnA hnd hnE hT hla hD hR ht hel hcs hkl hgl hgk he hg hp2 hn1 hn2
 go_enter Tryz.func100,Tryz.ntmps100
 go_upto_if 23 with fail
 obtain⟨NB,hNB⟩ : ∃z,z=w.heap.size:=⟨_,rfl⟩
 obtain⟨W1,hW1⟩ : ∃z,z=w.alloc (.cells #[.int .i64 xk,.int .i64 (ja:Nat),.int .i64 xb,.int .i64 xp,.string xt,.slice p1 n1 c1,.slice p2 n2 c2] 64):=⟨_,rfl⟩
 have X1:=Lib.hid (show Ext w W1 from by rw [hW1];exact(Ext.refl w).alloc _)
 have hs1:W1.heap.size=NB+1:=by rw [hW1,hNB];exact alloc_size _ _
 have NC:=Lib.hid (show W1.cell? ⟨NB,1,none⟩=some (.int .i64 (ja:Nat))∧W1.cell? ⟨NB,5,none⟩=some (.slice p1 n1 c1)∧W1.cell? ⟨NB,6,none⟩=some (.slice p2 n2 c2)from by rw [hW1,hNB];exact⟨by go_simp,by go_simp,by go_simp⟩)
 have EC:=Lib.hid (show W1.cell? ⟨E,1,none⟩=some (.slice pE nE cE)∧W1.cell? ⟨E,4,none⟩=some (.slice (some ⟨G,0,none⟩) nd cap)∧W1.cell? ⟨G,ja,none⟩=some (.slice pa nA ca)from ⟨X1.out.at ee,X1.out.at rr,X1.out.at ga⟩)
 rw [←hW1]
 try rw [←hNB]
 have X2:=Lib.hid (show Ext W1 ((W1.alloc (.map #[] 0)).alloc (.cells #[.map (some (NB+1)),.slice none 0 0,.slice none 0 0] 165))from ((Ext.refl W1).alloc _).alloc _)
 have CL0:=Lib.hid (show Cls ((W1.alloc (.map #[] 0)).alloc (.cells #[.map (some (NB+1)),.slice none 0 0,.slice none 0 0] 165)) T (NB+1+2) (NB+1+1) (NB+1) (.slice none 0 0) (.slice none 0 0) (.slice none 0 0) (.slice none 0 0) 0 (fun _=> .slice none 0 0) [] [] (fun _=> [])from by
  have h:=Cls.start W1 T 165
  rw [hs1]at h
  exact h)
 have HNB:=Lib.hid (show w.heap.size≤NB+1 from by rw [←hs1];exact X1.out.size)
 have HS1:=Lib.hid hs1
 obtain⟨W2,hW2⟩ : ∃z,z=(W1.alloc (.map #[] 0)).alloc (.cells #[.map (some (NB+1)),.slice none 0 0,.slice none 0 0] 165):=⟨_,rfl⟩
 rw [←hW2]at X2 CL0 ⊢
 obtain⟨C,hC⟩ : ∃z,z=NB+1+1:=⟨_,rfl⟩
 obtain⟨mb,hmb⟩ : ∃z,z=NB+1:=⟨_,rfl⟩
 have HCM:=Lib.hid (show w.heap.size≤C∧w.heap.size≤mb∧w.heap.size≤NB+1+2 from by have:=HNB.out;omega)
 have HCW:=Lib.hid (show W1.heap.size≤C from by rw [HS1.out,hC];exact Nat.le_succ _)
 have HCW2:=Lib.hid (show W1.heap.size≤mb from by rw [HS1.out,hmb];exact Nat.le_refl _)
 obtain⟨base,hbase⟩ : ∃z,z=NB+1+2:=⟨_,rfl⟩
 have HBA:=Lib.hid (show w.heap.size≤base from by rw [hbase];exact HCM.out.2.2)
 rw [←hbase,←hC,←hmb]at CL0
 try rw [←hC]
 clear hW1 hNB hs1 hW2 hC hmb hbase ee rr ga e0 e1
 go_cut [] (fun wx=>Hid (ClsV wx T C (ksG es keys A) ((ksG es keys A).map (selS (projE es keys) A)))∧Hid (Ext W1 wx))
 case first =>
  by_cases hn0:n1=0
  ·have hb0:((n1:Int)==0)=true:=by simp [hn0]
   rw [hb0]
   have k0:=CL0.out.c0
   have k1:=CL0.out.c1
   have k2:=CL0.out.c2
   have k3:=CL0.out.f1
   have k4:=CL0.out.f2
   have m0:=X2.out.at EC.out.2.1
   have m1:=X2.out.at EC.out.2.2
   have m2:=X2.out.at NC.out.1
   have e0:=cell_lt k0
   have e1:=cell_lt m0
   have e2:=cell_lt m1
   have e3:=cell_lt m2
   have HZ:=Lib.hid hn0
   clear hn0 hb0
   go_wp2_with fail
   go_region
   all_goals
    go_wp2_with fail
    go_meet
    rw [(ksG_zero (es:=es) (A:=A) (HN1.out.symm.trans HZ.out)).2,(ksG_zero (es:=es) (A:=A) (HN1.out.symm.trans HZ.out)).1]
    first
     |(have h:=clsV_a (T:=T) (A:=A) (T1:=56) (T2:=40) X2.out HCW.out k1 k2 (fun k hk=>HTT.out k (Nat.le_trans X1.out.size hk)) (HA.out.ext (X1.out.sub _));exact⟨h.1,h.2⟩)
     |(have h:=clsV_b (T:=T) (A:=A) (T1:=56) (T2:=40) X2.out HCW.out k1 k2 (fun k hk=>HTT.out k (Nat.le_trans X1.out.size hk)) (HA.out.ext (X1.out.sub _));exact⟨h.1,h.2⟩)
  ·have hb0:((n1:Int)==0)=false:=by simp [hn0]
   rw [hb0]
   have HN0:=Lib.hid hn0
   have m0:=X2.out.at EC.out.2.1
   have m1:=X2.out.at EC.out.2.2
   have m2:=X2.out.at NC.out.1
   have e0:=cell_lt m0
   have e1:=cell_lt m1
   have e2:=cell_lt m2
   clear hn0
   go_wp2_with fail
   go_big_region_o
   go_wp2_with fail
   obtain⟨W3,hW3⟩ : ∃z,z=W2.drew:=⟨_,rfl⟩
   have X3:=Lib.hid (show Ext W1 W3 from by rw [hW3];exact X2.out.drew)
   have CL3:=Lib.hid (show Cls W3 T base C mb (.slice none 0 0) (.slice none 0 0) (.slice none 0 0) (.slice none 0 0) 0 (fun _=> .slice none 0 0) [] [] (fun _=> [])from by rw [hW3];exact CL0.out.ext (Ext.refl _).drew)
   rw [←hW3]
   clear hW3 m0 m1 m2 e0 e1 e2
   go_loopg [49] nA (fun gk vi wr=> ∃(k:Nat) (vv rv:Value) (n:Nat) (f:Nat→Value),k≤nA∧gk=nA - k∧vi = .int .i64 k∧Hid (Cls wr T base C mb vv rv vv rv n f (ksL (prs (projE es keys) (A.take k))) (ksL (prs (projE es keys) (A.take k))) (gsL (prs (projE es keys) (A.take k))))∧Hid (n=(ksL (prs (projE es keys) (A.take k))).length)∧Hid (Ext W1 wr))
   case atStart=>exact⟨0,_,_,0,_,by omega,rfl,rfl,CL3.out.congr (fun i hi=>by omega),rfl,X3.out⟩
   case round =>
    clear CL3 X3
    obtain⟨k,vv,rv,n,f,hk,rfl,rfl,CL,HNK,X⟩:=hrel
    by_cases hlt:k<nA
    ·have hkl:k<A.length:=by have:=HNA.out;omega
     have hd:decide ((k:Int)<(nA:Int))=true:=by simp;omega
     obtain⟨ba,oa,rfl⟩:=HPA.out (by omega)
     have hv:=HA.out
     rw [HNA.out]at hv
     obtain⟨ua,ub,c0,c1',g0,g1⟩:=row_at hv k hkl
     obtain⟨pxa,kxa,rfl,-⟩:=g0.form
     obtain⟨pxb,kxb,rfl,-⟩:=g1.form
     have hst:=prs_take (projE es keys) A k hkl
     have hfx:=HFA.out A[k] (List.getElem_mem hkl)
     have XW:=X1.out.trans X.out
     replace c0:=XW.at (on_some.1 c0).2
     replace c1':=XW.at (on_some.1 c1').2
     have hll:(prs (projE es keys) (A.take k)).length≤8192:=by rw [prs_len,List.length_take];omega
     have HO:=CL.out.old XW HCM.out.1 HCM.out.2.1
     generalize A[k]=y at c0 c1' g0 g1 hst hfx
     obtain⟨xv,xl⟩:=y
     dsimp only at c0 c1' g0 g1 hst
     generalize prs (projE es keys) (A.take k)=l at CL HNK hst hll HO
     have HSA:=Lib.hid (g0.ext HO)
     have HSB:=Lib.hid (g1.ext HO)
     have HG0:=Lib.hid g0
     have HST:=Lib.hid hst
     have HFX:=Lib.hid (show ∀v∈xv,v.s.size≤1048576 from hfx.2.1)
     have HLL:=Lib.hid hll
     have HXW:=Lib.hid XW
     obtain⟨nxv,hnxv⟩ : ∃z,z=xv.length:=⟨_,rfl⟩
     obtain⟨nxl,hnxl⟩ : ∃z,z=xl.length:=⟨_,rfl⟩
     rw [←hnxv]at c0 HSA HG0
     rw [←hnxl]at c1' HSB
     have e0:=cell_lt c0
     clear hv g0 g1 hst hfx hll hnxv hnxl hkl HO XW
     go_wp2_with fail
     obtain⟨bx,hbx⟩ : ∃z,z=wr.heap.size:=⟨_,rfl⟩
     obtain⟨W4,hW4⟩ : ∃z,z=wr.alloc (.cells #[.slice pxa nxv kxa,.slice pxb nxl kxb] 58):=⟨_,rfl⟩
     have X4:=Lib.hid (show Ext wr W4 from by rw [hW4];exact(Ext.refl wr).alloc _)
     have hS0:Ext W1 W4.drew∧W4.drew.cell? ⟨E,1,none⟩=some (.slice pE nE cE)∧W4.drew.cell? ⟨NB,5,none⟩=some (.slice p1 n1 c1)∧W4.drew.cell? ⟨bx,0,none⟩=some (.slice pxa nxv kxa)∧W4.drew.cell? ⟨bx,1,none⟩=some (.slice pxb nxl kxb):=by
      refine⟨(X.out.trans X4.out).drew,X4.out.drew.at (X.out.at EC.out.1),X4.out.drew.at (X.out.at NC.out.2.1),?_,?_⟩ <;> (rw [hW4,hbx];go_simp)
     have HBX:=Lib.hid hbx
     try rw [←hbx]
     try rw [←hW4]
     clear hW4 hbx c0 c1' e0
     go_region_held3 (fun w'=>Ext W1 w'∧w'.cell? ⟨E,1,none⟩=some (.slice pE nE cE)∧w'.cell? ⟨NB,5,none⟩=some (.slice p1 n1 c1)∧w'.cell? ⟨bx,0,none⟩=some (.slice pxa nxv kxa)∧w'.cell? ⟨bx,1,none⟩=some (.slice pxb nxl kxb))
      (first |with_reducible assumption | with_reducible exact K8 | with_reducible exact keepE4 (by assumption) x7)
      (first
       |(go_at_call 80;refine(project_gen _ es _ keys _ xv _ (by have h:=HE.out.ext (HXW.out.trans X4.out).drew.full;rw [HNE.out]at h ⊢;exact h) HEL.out (by have h:=HKE.out.ext (HXW.out.trans X4.out).drew.full;rw [HN1.out]at h ⊢;exact h) HKLB.out (by first | exact(HG0.out.ext ((on_sub _ _).trans (HXW.out.trans X4.out).drew.full)) | (have h:=HG0.out.ext ((on_sub _ _).trans (HXW.out.trans X4.out).drew.full);simpa using h))).mono ?_;rintro e w7 ⟨v7,rfl,o7,x7⟩;have S7:=Lib.hid (o7.fresh flat_val);have K7:=keepE4 hS0 x7;have X7:=Lib.hid (show Ext wr w7 from X4.out.drew.trans x7);have PF:=Lib.hid (show (projE es keys xv).length≤1000∧ ∀y∈projE es keys xv,y.s.size≤1048576 from ⟨by rw [projE_len];exact HKLB.out,fit_projE HCS.out HFX.out keys⟩);clear o7)
       |(go_at_call 154;refine(add_any T base C mb vv rv n f l (projE es keys xv) ⟨xv,xl⟩ _ _ _ _ (CL.out.ext X7.out) HNK.out HLL.out (S7.out.ext (on_mono _ fun y hy h=>⟨HTT.out y (by(have h1:=(HXW.out.trans X4.out).size;simp at h;omega)),fun hi=>by(have h1:=CL.out.lt y hi;have h2:=X4.out.size;simp at h;omega)⟩)) (HSA.out.ext (X7.out.sub _)) (HSB.out.ext (X7.out.sub _)) PF.out (HTW.out.ext (HXW.out.trans X7.out))).mono ?_;rintro e w8 ⟨rfl,vv',rv',n',f',cl,hn',ch,-⟩;have CL8:=Lib.hid cl;have HN8:=Lib.hid hn';have X8:=Lib.hid (show Ext W1 w8 from ch.below (X.out.trans X7.out) (CL.out.ge HCW.out HCW2.out));have hnb : ¬InC C mb vv rv n f bx:=(fun hi=>by have h1:=CL.out.lt bx hi;have h2:=HBX.out;omega);have K8:Ext W1 w8∧w8.cell? ⟨E,1,none⟩=some (.slice pE nE cE)∧w8.cell? ⟨NB,5,none⟩=some (.slice p1 n1 c1)∧w8.cell? ⟨bx,0,none⟩=some (.slice pxa nxv kxa)∧w8.cell? ⟨bx,1,none⟩=some (.slice pxb nxl kxb):=⟨X8.out,X8.out.at EC.out.1,X8.out.at NC.out.2.1,ch.at K7.2.2.2.1 hnb,ch.at K7.2.2.2.2 hnb⟩;clear cl hn' ch)
       |fail)
     all_goals
      clear hS0 x7 K7 K8 hnb
      go_wp2_with fail
      go_roundg (nA - (k+1))
      case measure=>omega
      case rel=>exact⟨k+1,vv',rv',n',f',by omega,rfl,by go_num,by rw [HST.out];exact CL8.out,by rw [HST.out];exact HN8.out,X8.out⟩
    ·have hd:decide ((k:Int)<(nA:Int))=false:=by simp;omega
     have hkN:k=A.length:=by have:=HNA.out;omega
     have HR:=Lib.hid (show ClsV wr T C (ksG es keys A) ((ksG es keys A).map (selS (projE es keys) A))from by
      have h1:=CL.out
      have h2:=HNK.out
      rw [hkN,List.take_length]at h1 h2
      have h3:=h1.readR (fun k hk=>HTT.out k (Nat.le_trans HBA.out hk))
      have h4:ksG es keys A=firsts (A.map fun r=>projE es keys r.vals):=by
       unfold ksG
       rw [if_neg (by rw [←HN1.out];exact HN0.out)]
      rw [h2,gsL_prs,ksL_prs]at h3
      rw [h4]
      exact⟨h3.c1,h3.c2⟩)
     clear hkN
     go_wp2_with fail
     go_meet
     exact⟨HR.out,X.out⟩
 case rest =>
  obtain⟨wk,rfl⟩ : ∃z,z=wc:=⟨wc,rfl⟩
  obtain⟨HCL,HXX⟩:=hcut
  have HX1:=Lib.hid (show Ext w wk from X1.out.trans HXX.out)
  obtain⟨ks,hks⟩ : ∃z,z=ksG es keys A:=⟨_,rfl⟩
  rw [←hks]at HCL
  have HKS:=Lib.hid hks
  have HNK:=Lib.hid (show ks.length≤4097 from by rw [hks];exact Nat.le_trans (ksG_len _ _ _) (by have:=HLA.out;omega))
  have HKL:=Lib.hid (show ∀kv∈ks,kv.length=n1 from fun kv hkv=>by rw [hks]at hkv;rw [ksG_key hkv];exact HN1.out.symm)
  obtain⟨vv,l1,sv⟩:=HCL.out.c1
  obtain⟨rv,l2,sr⟩:=HCL.out.c2
  obtain⟨pv,cv,rfl,_,_,hpv⟩:=sv.form
  obtain⟨pr,cr,rfl,_,_,hpr⟩:=sr.form
  obtain⟨nK,hnK⟩ : ∃z,z=ks.length:=⟨_,rfl⟩
  obtain⟨proj,hproj⟩ : ∃z,z=projE es keys:=⟨_,rfl⟩
  rw [←hproj]at sr l2 hpr
  have HPROJ:=Lib.hid hproj
  have hml:(ks.map (selS proj A)).length=nK:=by rw [List.length_map,hnK]
  rw [hml]at l2 sr hpr
  rw [←hnK]at l1 sv hpv
  have HSV:=Lib.hid sv
  have HSR:=Lib.hid sr
  have HPV:=Lib.hid hpv
  have HPR:=Lib.hid hpr
  have HNKE:=Lib.hid hnK
  have hnK4:nK≤4097:=by rw [hnK];exact HNK.out
  have HML:=Lib.hid hml
  have L2:=Lib.hid l2
  have NCx:=Lib.hid (show wk.cell? ⟨NB,6,none⟩=some (.slice p2 n2 c2)∧wk.cell? ⟨E,1,none⟩=some (.slice pE nE cE)from ⟨HXX.out.at NC.out.2.2,HXX.out.at EC.out.1⟩)
  have HEx:=Lib.hid (show SliceOf Rep.expr wk.cell? (.slice pE nE cE) es from HE.out.ext HX1.out.full)
  have HGx:=Lib.hid (show SliceOf Rep.agg wk.cell? (.slice p2 n2 c2) aggs from HGG.out.ext HX1.out.full)
  have e1:=cell_lt l1
  clear hks sv sr hpv hpr hnK hml l2 hproj
  go_wp2_with fail
  go_loopg [8,72] nK (fun gk vo vi wr=> ∃(k:Nat) (u:Value) (o:List Row),k≤nK∧gk=nK - k∧vi = .int .i64 k∧u=vo∧Hid (OwnOf Rep.row wr T wk.heap.size 58 u o)∧Hid (o=(ks.take k).map fun kv=>gRowS (aggsE es aggs) kv (selS proj A kv))∧Hid (Ext wk wr))
  case atStart=>exact⟨0,_,[],by omega,rfl,rfl,rfl,OwnOf.nil _ _ _ _ _,rfl,Ext.refl wk⟩
  case round =>
   clear e1 l1
   obtain⟨k,u,o,hk,rfl,rfl,rfl,OW,HO,X⟩:=hrel
   obtain⟨wo,rfl⟩ : ∃z,z=wr:=⟨wr,rfl⟩
   by_cases hlt:k<nK
   ·have hkl:k<ks.length:=by have:=HNKE.out;omega
    have hd:decide ((k:Int)<(nK:Int))=true:=by simp;omega
    obtain⟨gv,ov,rfl⟩:=HPV.out (by decide) (by omega)
    obtain⟨gr,og,rfl⟩:=HPR.out (by decide) (by omega)
    obtain⟨vk,c0,sk⟩:=slice_atT HSV.out k hkl
    obtain⟨vg,c1',sg⟩:=slice_atT HSR.out k (by rw [HML.out];exact hlt)
    rw [List.getElem_map]at sg
    have hst:=map_takeR (fun kv=>gRowS (aggsE es aggs) kv (selS proj A kv)) ks k hkl
    rw [←HO.out]at hst
    have hkv:=HKL.out ks[k] (List.getElem_mem hkl)
    generalize ks[k]=kv at c0 sk sg hst hkv
    obtain⟨pk,ck,rfl,-⟩:=sk.form
    obtain⟨pg,cg,rfl,_,_,hpg⟩:=sg.form
    obtain⟨S,hS⟩ : ∃z,z=selS proj A kv:=⟨_,rfl⟩
    rw [←hS]at sg hst hpg c1'
    have hSm : ∀r∈S,fitE r:=fun r hr=>by rw [hS]at hr;exact HFA.out r (List.mem_filter.1 hr).1
    have hSl:S.length≤4096:=by rw [hS];exact Nat.le_trans (List.length_filter_le _ _) HLA.out
    obtain⟨nG,hnG⟩ : ∃z,z=S.length:=⟨_,rfl⟩
    rw [hkv]at c0 sk
    rw [←hnG]at c1' sg hpg
    have HKVL:=Lib.hid hkv
    have HNG:=Lib.hid hnG
    have HSK:=Lib.hid sk
    have HSG:=Lib.hid sg
    have HPGG:=Lib.hid hpg
    have HST:=Lib.hid hst
    have HSM:=Lib.hid hSm
    have HOKS:=Lib.hid (show ∀r∈S,∀v∈r.vals,okVal v from rows_ok sg)
    have hnGB:nG≤4096:=by omega
    have HOL:=Lib.hid (show o.length≤4097 from by rw [HO.out,List.length_map,List.length_take];omega)
    replace c0:=X.out.at c0
    replace c1':=X.out.at c1'
    have l2:=X.out.at L2.out
    have e2:=cell_lt c0
    have e3:=cell_lt c1'
    have e4:=cell_lt l2
    clear sk sg hst hkv hnG hkl hS hSm hSl hpg
    go_wp2_with fail
    go_loopg [11,85] nG (fun gj vo vj wr=> ∃(j:Nat) (u':Value) (g:List (List Val)),j≤nG∧gj=nG - j∧vj = .int .i64 j∧u'=vo∧Hid (OwnOf (Rep.slice Rep.val) wr T wo.heap.size 56 u' g)∧Hid (g=(S.take j).map Row.vals)∧Hid (Ext wo wr))
    case atStart=>exact⟨0,_,[],by omega,rfl,rfl,rfl,OwnOf.nil _ _ _ _ _,rfl,Ext.refl wo⟩
    case round =>
     obtain⟨j,u',g,hj,rfl,rfl,rfl,OG,HG,XW⟩:=hrel
     by_cases hlt2:j<nG
     ·have hjl:j<S.length:=by have:=HNG.out;omega
      have hd2:decide ((j:Int)<(nG:Int))=true:=by simp;omega
      obtain⟨bb,ob,rfl⟩:=HPGG.out (by decide) (by omega)
      have hv:=HSG.out
      rw [HNG.out]at hv
      obtain⟨ua,ub,d0,d1,g0,g1⟩:=row_at hv j hjl
      obtain⟨pya,kya,rfl,-⟩:=g0.form
      obtain⟨pyb,kyb,rfl,-⟩:=g1.form
      have hst2:=map_takeR Row.vals S j hjl
      rw [←HG.out]at hst2
      have hgl:g.length≤4096:=by rw [HG.out,List.length_map,List.length_take];omega
      have XXW:=X.out.trans XW.out
      replace d0:=XXW.at (on_some.1 d0).2
      replace d1:=XXW.at (on_some.1 d1).2
      generalize S[j]=y at d0 d1 g0 g1 hst2
      obtain⟨yv,yl⟩:=y
      dsimp only at d0 d1 g0 g1 hst2
      have HST2:=Lib.hid hst2
      have G0:=Lib.hid g0
      obtain⟨nyl,hnyl⟩ : ∃z,z=yl.length:=⟨_,rfl⟩
      rw [←hnyl]at d1
      have f1:=cell_lt d0
      have B1:g.length+1≤maxLen:=by unfold maxLen;omega
      have B2:(g.length+1)*24≤140737488355328:=by omega
      have HBB:=Lib.hid (And.intro B1 B2)
      obtain⟨nyv,hnyv⟩ : ∃z,z=yv.length:=⟨_,rfl⟩
      rw [←hnyv]at d0 G0
      have OGA:=Lib.hid (show ∀(a b:Obj),OwnOf (Rep.slice Rep.val) ((wr.alloc a).alloc b) T wo.heap.size 56 u' g from fun a b=>OG.out.ext (((Ext.refl wr).alloc a).alloc b))
      have HNY:=Lib.hid (show ∀(a b:Obj),(Rep.slice Rep.val).holds (on ((wr.alloc a).alloc b) (avoid T u')) [.slice pya nyv kya] yv from fun a b=>⟨_,rfl,G0.out.ext (old_allT ((XXW.alloc a).alloc b) (fun kk hkk=>Nat.le_trans X.out.size (OG.out.base kk hkk)))⟩)
      clear hv g0 g1 hst2 hgl hnyl hnyv XXW B1 B2
      go_wp2_with (at_builtin;go_loud (refine wpList_append_one (Rep.slice Rep.val) T rfl _ _ 163 rfl wo.heap.size 56 i4 _ 24 Tryz.underlying163 hi4 hz40 hz41 hz42 rfl (by decide) u' g rfl (by exact OGA.out _ _) ⟨_,0,none⟩ 1 yv [.slice pya nyv kya] rfl (by exact HNY.out _ _) (by exact cells_new2 wr _ [.slice pya nyv kya] _) HBB.out.1 HBB.out.2 (by exact Nat.le_trans XW.out.size (((Ext.refl wr).alloc _).alloc _).size) ?_))
      intro g9 cap9 w7 own gr9 _
      have X7:=Lib.hid (show Ext wo w7 from ext_grown ((XW.out.alloc _).alloc _) gr9 OG.out.base)
      have OW7:=Lib.hid own
      clear own gr9
      go_wp2_with fail
      go_roundg (nG - (j+1))
      case measure=>omega
      case rel=>exact⟨j+1,_,g ++ [yv],by omega,rfl,by go_num,rfl,OW7.out,HST2.out.symm,X7.out⟩
     ·have hjN:j=nG:=by omega
      have hd2 : ¬(j:Int)<(nG:Int):=by omega
      obtain⟨vss,hvss⟩ : ∃z,z=S.map Row.vals:=⟨_,rfl⟩
      have HVS:=Lib.hid (show g=vss from by have h:=HG.out;rwa [hjN,HNG.out,List.take_length,←hvss]at h)
      have HVSS:=Lib.hid hvss
      have HVL:=Lib.hid (show vss.length≤4096 from by rw [hvss,List.length_map,←HNG.out];exact hnGB)
      obtain⟨wz,rfl⟩ : ∃z,z=wr:=⟨wr,rfl⟩
      have SMz:=Lib.hid (show SliceOf (Rep.slice Rep.val) wz.cell? u' vss from by have h:=OG.out.slice;rwa [HVS.out]at h)
      have XZ:=Lib.hid (X.out.trans XW.out)
      have l2z:=XW.out.at l2
      have c1z:=XW.out.at c1'
      have e5:=cell_lt l2z
      have e6:=cell_lt c1z
      clear hjN hvss HG c0 c1' l2 e2 e3 e4
      go_wp2_with fail
      have HLC:=Lib.hid (And.intro l2z c1z)
      have HKP:=Lib.hid (show ∀wy,Ext wz wy→Ext wz wy∧wy.cell? ⟨C,2,none⟩=some (.slice (some ⟨gr,og,none⟩) nK cr)∧wy.cell? ⟨gr,og+k,none⟩=some (.slice pg nG cg)from fun wy h=>⟨h,h.at HLC.out.1,h.at HLC.out.2⟩)
      have hS0:=HKP.out _ (Ext.refl wz).drew
      have HKB:=Lib.hid (show kv.length*32≤140737488355328 from by rw [HKVL.out];omega)
      have HSLN:=Lib.hid (show S.length≤8192∧ ∀r∈S,r.lin.length≤1000 from ⟨by rw [←HNG.out];omega,fun r hr=>(HSM.out r hr).2.2⟩)
      go_cut [14] (fun s14 wx=> ∃(rb:Nat) (pv:Option Addr) (cv:Nat) (pl:Option Addr) (cl L0 L1:Nat),s14 = .pointer (some ⟨rb,0,none⟩)∧Hid (RowBox wz wx rb pv cv kv pl cl (linS S) L0 L1))
      case first =>
       go_region_held3 (fun w'=>Ext wz w'∧w'.cell? ⟨C,2,none⟩=some (.slice (some ⟨gr,og,none⟩) nK cr)∧w'.cell? ⟨gr,og+k,none⟩=some (.slice pg nG cg))
        (first |with_reducible assumption | with_reducible exact K3 | with_reducible exact K2 | exact HKP.out _ (X3z.out.alloc _) | exact HKP.out _ (X2z.out.alloc _) | exact HKP.out _ ((Ext.refl wz).drew.alloc _) | exact HKP.out _ (Below.setCell (Below.setCell X3z.out X2z.out.size _) X2z.out.size _) | exact HKP.out _ (Below.setCell (Below.setCell X3z.out (Nat.le_refl _) _) (Nat.le_refl _) _))
        (first
        |(go_at_call 99;have zz:=z0;refine(lineage_any _ S _ (HSG.out.ext ((on_sub _ _).trans (XZ.out.trans X2z.out).full)) HSLN.out.1 HSLN.out.2).mono ?_;rintro e w3 ⟨v3,rfl,s3,x3⟩;have X3z:=Lib.hid (show Ext wz w3 from X2z.out.trans x3);have K3:=HKP.out _ X3z.out;have y0:=x3.at z0;have y1:=x3.at z1;have y2:=x3.unfrozen z0 z2;have y3:=x3.unfrozen z1 z3;have y4:=cell_lt y0;obtain⟨q3,j3,rfl,-⟩:=s3.form)
        |(go_at_call 99;refine(lineage_any _ S _ (HSG.out.ext ((on_sub _ _).trans (XZ.out.trans X2z.out).full)) HSLN.out.1 HSLN.out.2).mono ?_;rintro e w3 ⟨v3,rfl,s3,x3⟩;have X3z:=Lib.hid (show Ext wz w3 from X2z.out.trans x3);have K3:=HKP.out _ X3z.out;obtain⟨q3,j3,rfl,-⟩:=s3.form)
        |(go_at_call 99;refine(lineage_any _ S _ (HSG.out.ext ((on_sub _ _).trans (XZ.out.trans (X2z.out.alloc _)).full)) HSLN.out.1 HSLN.out.2).mono ?_;rintro e w3 ⟨v3,rfl,s3,x3⟩;have X3z:=Lib.hid (show Ext wz w3 from (X2z.out.alloc _).trans x3);have K3:=HKP.out _ X3z.out;obtain⟨⟨y0,y1⟩,y2,y3⟩:=box2c x3;have y4:=cell_lt y0;obtain⟨q3,j3,rfl,-⟩:=s3.form)
        |(go_at_call 155;refine(clone_ownV _ kv _ (HSK.out.ext ((on_sub _ _).trans XZ.out.drew.full)) HKB.out).mono ?_;rintro e w2 ⟨v2,rfl,o2,x2⟩;have X2z:=Lib.hid (show Ext wz w2 from (Ext.refl wz).drew.trans x2);have K2:=HKP.out _ X2z.out;obtain⟨q2,j2,rfl,-⟩:=o2.slice.form)
        |(go_at_call 155;refine(clone_ownV _ kv _ (HSK.out.ext ((on_sub _ _).trans (XZ.out.drew.alloc _).full)) HKB.out).mono ?_;rintro e w2 ⟨v2,rfl,o2,x2⟩;have xb2:=(Ext.refl (wz.alloc (.cells #[.slice none 0 0,.slice none 0 0] 58))).drew.trans x2;obtain⟨⟨z0,z1⟩,z2,z3⟩:=box2c xb2;have X2z:=Lib.hid (show Ext wz w2 from ((Ext.refl wz).drew.alloc _).trans x2);have K2:=HKP.out _ X2z.out;obtain⟨q2,j2,rfl,-⟩:=o2.slice.form)
        |fail)
       all_goals
        go_wp2_with fail
        go_meet
        first
         |exact⟨_,_,_,_,_,_,_,rfl,rowbox_after (w1:=wz.drew) (Ext.refl wz).drew o2 x2 s3 x3⟩
         |exact⟨_,_,_,_,_,_,_,rfl,rowbox_mid (w1:=wz.drew) (Ext.refl wz).drew o2 x2 s3 x3⟩
         |exact⟨_,_,_,_,_,_,_,rfl,rowbox_before xb2 o2 (by simp) s3 x3⟩
      case rest =>
       obtain⟨wb,rfl⟩ : ∃z,z=wc:=⟨wc,rfl⟩
       obtain⟨rb,pq,cq,pl,cl,L0,L1,rfl,RBX⟩:=hcut
       obtain⟨ls,hls⟩ : ∃z,z=linS S:=⟨_,rfl⟩
       rw [←hls]at RBX
       have HLS:=Lib.hid hls
       obtain⟨nl,hnl⟩ : ∃z,z=ls.length:=⟨_,rfl⟩
       have HNLS:=Lib.hid hnl
       have HXB:=Lib.hid RBX.out.ext
       have HC0:=Lib.hid (show wb.cell? ⟨rb,0,none⟩=some (.slice pq kv.length cq)∧wb.cell? ⟨rb,1,none⟩=some (.slice pl nl cl)∧wb.frozen? ⟨rb,0,none⟩=false from ⟨RBX.out.c0,by rw [hnl];exact RBX.out.c1,RBX.out.f0⟩)
       have OV0:=Lib.hid RBX.out.ov
       have SL0:=Lib.hid (show SliceOf Rep.int (on wb (fun x=>x≠rb∧L0≤x∧x<L1)) (.slice pl nl cl) ls from by rw [hnl];exact RBX.out.sl)
       have HU0:=Lib.hid RBX.out.vo
       have HLO:=Lib.hid RBX.out.lo
       have n6:=(XZ.out.trans HXB.out).at NCx.out.1
       have e7:=cell_lt n6
       clear hls hnl RBX hS0
       go_wp2_with fail
       go_loopg [109] n2 (fun gj vi wr=> ∃(j:Nat) (pu:Option Addr) (nu cu:Nat),j≤n2∧gj=n2 - j∧vi = .int .i64 j∧Hid (wr.cell? ⟨rb,0,none⟩=some (.slice pu nu cu)∧wr.cell? ⟨rb,1,none⟩=some (.slice pl nl cl)∧wr.frozen? ⟨rb,0,none⟩=false)∧Hid (OwnOf Rep.val wr (fun _=>True) wz.heap.size 61 (.slice pu nu cu) (kv++(aggs.take j).map (fun a=>aggV1 es a vss)))∧Hid (∀x,(Value.slice pu nu cu).ownBlock=some x→x≠rb∧ ¬(L0≤x∧x<L1))∧Hid (SliceOf Rep.int (on wr (fun x=>x≠rb∧L0≤x∧x<L1)) (.slice pl nl cl) ls)∧Hid (Ext wz wr∧L1≤wr.heap.size))
       case atStart =>
        exact⟨0,pq,kv.length,cq,by omega,rfl,rfl,HC0.out,by show OwnOf Rep.val _ _ _ _ _ (kv ++ []);rw [List.append_nil];exact OV0.out,HU0.out,SL0.out,HXB.out,HLO.out.2.2⟩
       case round =>
        clear HC0 OV0 HU0 SL0 n6 e7
        obtain⟨j,pu,nu,cu,hj,rfl,rfl,HC,OU,HU,SL,HX⟩:=hrel
        by_cases hlt3:j<n2
        ·have hjl:j<aggs.length:=by have:=HN2.out;omega
         have hdj:decide ((j:Int)<(n2:Int))=true:=by simp;omega
         obtain⟨bg,og2,rfl⟩:=HPG.out (by decide) (by omega)
         obtain⟨b0,b1⟩:=agg_at (by have h:=HGx.out;rw [HN2.out]at h;exact h) j hjl
         replace b0:=(XZ.out.trans HX.out.1).at b0
         replace b1:=(XZ.out.trans HX.out.1).at b1
         have g0:=(XZ.out.trans HX.out.1).at NCx.out.2
         have hstp:kv++(aggs.take (j+1)).map (fun a=>aggV1 es a vss)=(kv++(aggs.take j).map (fun a=>aggV1 es a vss)) ++ [aggV1 es aggs[j] vss]:=by rw [map_takeR _ aggs j hjl,←List.append_assoc]
         have hoy:okVal (aggV1 es aggs[j] vss):=ok_aggE2 HOKC.out (by
          intro vs hvs v hv
          rw [HVSS.out]at hvs
          obtain⟨r,hr,rfl⟩:=List.mem_map.1 hvs
          exact HOKS.out r hr v hv) (by have:=HVL.out;omega) _ _
         have hcl : ∀wx,Ext wz wx→Calls Tryz.prog 130 #[.slice pE nE cE,.agg #[.int .i64 aggs[j].kind,.int .i64 aggs[j].arg],u'] wx fun e w'=>e = .returned (valV (aggV1 es aggs[j] vss))∧Ext wx w':=fun wx hwx=>by
          have h:=HEx.out.ext (XZ.out.trans hwx).full
          exact aggregate_all _ es _ _ _ vss wx h HEL.out (SMz.out.ext hwx.full) HVL.out
         generalize aggV1 es aggs[j] vss=y at hoy hcl hstp
         generalize aggs[j].arg=ar at b1 hcl
         generalize aggs[j].kind=ak at b0 hcl
         obtain⟨yk,yn,ys⟩:=y
         have HSTP:=Lib.hid hstp
         have HOKN:=Lib.hid hoy
         have HCLA:=Lib.hid hcl
         clear hoy hcl hstp
         obtain⟨q0,q1,q2⟩:=HC.out
         obtain⟨xs,hxs⟩ : ∃x,x=kv++(aggs.take j).map (fun a=>aggV1 es a vss):=⟨_,rfl⟩
         rw [←hxs]at OU
         have hxl:xs.length≤2000:=by rw [hxs,List.length_append,List.length_map,List.length_take,HKVL.out];omega
         have HXS:=Lib.hid hxs
         have B1:xs.length + [(⟨yk,yn,ys⟩:Val)].length≤maxLen:=by simp [maxLen];omega
         have B2:(xs.length + [(⟨yk,yn,ys⟩:Val)].length)*32≤140737488355328:=by simp;omega
         have e0:=cell_lt b0
         have e1:=cell_lt q0
         have e2:=cell_lt g0
         have HUL:=Lib.hid (show ∀x,(Value.slice pu nu cu).ownBlock=some x→wz.heap.size≤x∧x<wr.heap.size from fun x hx=>OU.out.lt x hx)
         have HRBL:=Lib.hid (show rb<wr.heap.size from e1)
         clear hxs hxl hjl
         go_wp2_with fail
         have k0:(wr.alloc (.cells #[.int .i64 ak,.int .i64 ar] 74)).cell? ⟨wr.heap.size,0,none⟩=some (.int .i64 ak):=by go_simp
         have k1:(wr.alloc (.cells #[.int .i64 ak,.int .i64 ar] 74)).cell? ⟨wr.heap.size,1,none⟩=some (.int .i64 ar):=by go_simp
         have x0:Ext wr (wr.alloc (.cells #[.int .i64 ak,.int .i64 ar] 74)):=(Ext.refl wr).alloc _
         generalize (wr.alloc (.cells #[.int .i64 ak,.int .i64 ar] 74))=WA at k0 k1 x0 ⊢
         have m0:=x0.at q0
         have m1:=x0.at g0
         have X0:=Lib.hid x0.drew
         have HQ:=Lib.hid (And.intro q0 q2)
         have eA:=cell_lt m0
         have eB:=cell_lt m1
         clear b0 b1 q0 q2 g0 x0 e0 e1 e2
         go_region_law (first
          |((with_reducible refine key_op 122 ?_);go_simp;refine(HCLA.out _ (by first | with_reducible exact HX.out.1.trans X0.out | exact HX.out.1.trans X0.out)).mono ?_;rintro e w2 ⟨rfl,hx2⟩;have hy2:=Lib.hid (X0.out.trans hx2);have m2:=hy2.out.at HQ.out.1;have e9:=cell_lt m2)
          |((with_reducible refine key_op 124 ?_);(try simp only [Act.put,List.setIfInBounds_toArray,List.set_cons_zero,List.set_cons_succ]);refine step_append_all Rep.val (fun _=>True) rfl _ _ 56 rfl wz.heap.size 61 i3 _ 32 Tryz.underlying56 hi3 hz30 hz31 hz32 rfl (by decide) (.slice pu nu cu) xs rfl (OU.out.ext (hy2.out.alloc _)) _ [⟨yk,yn,ys⟩] rfl (lit_new (R:=Rep.val) w2 [.int .i64 yk,.int .i64 yn,.string ys] 61 [[.int .i64 yk,.int .i64 yn,.string ys]] [⟨yk,yn,ys⟩] rfl (fun _=>⟨⟨rfl,HOKN.out⟩,trivial⟩) (by simp [maxLen]) (fun x hx=>Nat.lt_of_lt_of_le (HUL.out x hx).2 hy2.out.size)) B1 B2 (Nat.le_trans HX.out.1.size (hy2.out.alloc _).size) ?_;intro v8 w8 own8 gr8 hg8;obtain⟨p8,n8,c8,rfl⟩ : ∃p n c,v8 = .slice p n c:=(by obtain⟨pz,cz,hz,_⟩:=own8.shapeL;exact⟨_,_,_,hz⟩);have m8:=cell_grown gr8 (((Ext.refl w2).alloc _).at m2) (fun k e=>(HU.out k e).1);have f8:=frozen_grown gr8 (((Ext.refl w2).alloc (.cells #[.int .i64 yk,.int .i64 yn,.string ys] 61)).at m2) ((hy2.out.alloc _).unfrozen HQ.out.1 HQ.out.2) (fun k e=>(HU.out k e).1)))
         all_goals
          have xal:=hy2.out.alloc (.cells #[.int .i64 yk,.int .i64 yn,.string ys] 61)
          have CH:Chg (fun k=>k=rb∨(Value.slice pu nu cu).ownBlock=some k) wr (w8.setCell ⟨rb,0,none⟩ (.slice p8 n8 c8)):=((xal.chg _).grown gr8 (fun k e=> .inl (.inr e))).setCell (.inl (.inl rfl)) _
          have HU8 : ∀x,(Value.slice p8 n8 c8).ownBlock=some x→x≠rb∧ ¬(L0≤x∧x<L1):=fun x hx=>by
           rcases hg8 with h | h
           · exact HU.out x (h▸hx)
           · have h2:wr.heap.size≤x:=by
              have h1:=Option.some.inj (h.symm.trans hx)
              rw [←h1]
              exact xal.size
             have h3:=HRBL.out
             have h4:=HX.out.2
             omega
          have OU8:OwnOf Rep.val (w8.setCell ⟨rb,0,none⟩ (.slice p8 n8 c8)) (fun _=>True) wz.heap.size 61 (.slice p8 n8 c8) (kv++(aggs.take (j+1)).map (fun a=>aggV1 es a vss)):=by
           rw [HSTP.out,←HXS.out]
           exact own8.chg (fun _ _ _ _ h=>h) (chg_set w8 ⟨rb,0,none⟩ _) (fun k h e=>(HU8 k h).1 e)
          have Q8:(w8.setCell ⟨rb,0,none⟩ (.slice p8 n8 c8)).cell? ⟨rb,0,none⟩=some (.slice p8 n8 c8)∧(w8.setCell ⟨rb,0,none⟩ (.slice p8 n8 c8)).cell? ⟨rb,1,none⟩=some (.slice pl nl cl)∧(w8.setCell ⟨rb,0,none⟩ (.slice p8 n8 c8)).frozen? ⟨rb,0,none⟩=false:=by
           have h1:=cell_grown gr8 (xal.at q1) (fun k e=>(HU.out k e).1)
           exact⟨by go_simp,by rw [World.cell?_setCell_other _ _ _ _ (by simp)];exact h1,by go_simp⟩
          have SL8:=Lib.hid (SL.out.chg CH (fun x hx e=>by
           rcases e with e | e
           · exact hx.1 e
           · exact(HU.out x e).2 hx.2))
          have HX8:=Lib.hid (show Ext wz (w8.setCell ⟨rb,0,none⟩ (.slice p8 n8 c8))∧L1≤(w8.setCell ⟨rb,0,none⟩ (.slice p8 n8 c8)).heap.size from ⟨CH.below HX.out.1 (fun k e=>by
           rcases e with e | e
           · rw [e];exact HLO.out.1
           · exact(HUL.out k e).1),Nat.le_trans HX.out.2 CH.size⟩)
          have HU9:=Lib.hid HU8
          have OU9:=Lib.hid OU8
          have Q9:=Lib.hid Q8
          clear CH HU8 OU8 Q8 own8 gr8 hg8 m8 f8 hy2 m2 q1 xal
          go_wp2_with fail
          go_roundg (n2 - (j+1))
          case measure=>omega
          case rel=>exact⟨j+1,p8,n8,c8,by omega,rfl,by go_num,Q9.out,OU9.out,HU9.out,SL8.out,HX8.out⟩
        ·have hjK:j=n2:=by omega
         have hdj:decide ((j:Int)<(n2:Int))=false:=by simp;omega
         obtain⟨q0,q1,q2⟩:=HC.out
         obtain⟨gvs,hgvs⟩ : ∃z,z=kv++aggs.map (fun a=>aggV1 es a vss):=⟨_,rfl⟩
         have OU2:=Lib.hid (show OwnOf Rep.val wr (fun _=>True) wz.heap.size 61 (.slice pu nu cu) gvs from by have h:=OU.out;rwa [hjK,HN2.out,List.take_length,←hgvs]at h)
         have HROW:=Lib.hid (show (⟨gvs,ls⟩:Row)=gRowS (aggsE es aggs) kv S from by rw [hgvs,HLS.out,HVSS.out];rfl)
         have XWR:=Lib.hid (XW.out.trans HX.out.1)
         have XXR:=Lib.hid (X.out.trans XWR.out)
         have XD:=Lib.hid (XXR.out.alloc (.cells #[.slice pu nu cu,.slice pl nl cl] 58))
         have OA:=Lib.hid (OW.out.ext (XWR.out.alloc (.cells #[.slice pu nu cu,.slice pl nl cl] 58)))
         have HULW:=Lib.hid (show ∀y,u.ownBlock=some y→y<wz.heap.size from fun y hy=>Nat.lt_of_lt_of_le (OW.out.lt y hy).2 XW.out.size)
         have HTZ:=Lib.hid (show ∀y,wz.heap.size≤y→T y from fun y hy=>HTT.out y (Nat.le_trans (HX1.out.trans XZ.out).size hy))
         have HNY:=Lib.hid (show Rep.row.holds (on (wr.alloc (.cells #[.slice pu nu cu,.slice pl nl cl] 58)) (avoid T u)) [.slice pu nu cu,.slice pl nl cl] ⟨gvs,ls⟩from
          ⟨_,_,rfl,(OU2.out.fresh flat_val).ext ((((Ext.refl wr).alloc (.cells #[.slice pu nu cu,.slice pl nl cl] 58)).sub _).trans (on_mono _ fun y _ hy=>⟨fun e=>by have h1:=HULW.out y e.symm;omega,HTZ.out y hy⟩)),
           SL.out.ext ((((Ext.refl wr).alloc (.cells #[.slice pu nu cu,.slice pl nl cl] 58)).sub _).trans (on_mono _ fun y _ hy=>⟨fun e=>by have h1:=HULW.out y e.symm;have h2:=HLO.out.2.1;have h3:=hy.2.1;omega,HTZ.out y (Nat.le_trans HLO.out.2.1 hy.2.1)⟩))⟩)
         have B1:o.length+1≤maxLen:=by have:=HOL.out;unfold maxLen;omega
         have B2:(o.length+1)*48≤140737488355328:=by have:=HOL.out;omega
         have HBB:=Lib.hid (And.intro B1 B2)
         have e1:=cell_lt q0
         clear hjK hgvs B1 B2
         go_wp2_with (at_builtin;go_loud (refine wpList_append_one Rep.row T rfl _ _ 40 rfl wk.heap.size 58 i0 _ 48 Tryz.underlying40 hi hz0 hz1 hz2 rfl (by decide) u o rfl (by exact OA.out) ⟨wr.heap.size,0,none⟩ 1 ⟨gvs,ls⟩ [.slice pu nu cu,.slice pl nl cl] rfl (by exact HNY.out) (by exact cells_new wr [.slice pu nu cu,.slice pl nl cl] _) HBB.out.1 HBB.out.2 (by exact XD.out.size) ?_))
         intro g9 cap9 w7 own gr9 _
         have X7:=Lib.hid (show Ext wk w7 from XD.out.grownNew gr9 OW.out.base)
         have OW7:=Lib.hid own
         have HST9:=Lib.hid (show o ++ [(⟨gvs,ls⟩:Row)]=(ks.take (k+1)).map (fun kv=>gRowS (aggsE es aggs) kv (selS proj A kv))from by rw [HST.out,HROW.out])
         clear own gr9 q0 q1 q2 e1
         go_wp2_with fail
         go_roundg (nK - (k+1))
         case measure=>omega
         case rel=>exact⟨k+1,_,o ++ [(⟨gvs,ls⟩:Row)],by omega,rfl,by go_num,rfl,OW7.out,HST9.out,X7.out⟩
   ·have hkN:k=nK:=by omega
    have hd : ¬(k:Int)<(nK:Int):=by omega
    have HF:=Lib.hid (show o=groupP es keys aggs A from by
     have h:=HO.out
     rw [hkN,HNKE.out,List.take_length,HKS.out,HPROJ.out]at h
     exact h)
    clear hkN
    go_wp2_with fail
    go_ret
    exact⟨_,rfl,by rw [←HF.out];exact OW.out.sliceIn (fun _ _ h=>h) (fun kk hkk=>HTT.out kk (Nat.le_trans HX1.out.size hkk)),HX1.out.trans X.out⟩
end Go.Proofs.YtombmdaohcjokaaGreatDoor
