/- joined texts of a proof: BagM, RowW, GrpF, GrpQ, GrpA, PlainX, EvalF, EvalM, EvalA -/
import Derived.Test.YtombmdaohcjokaaGreatDoorKX03
import Derived.Deep.RegionLaw
import Derived.Laws.OwnMore
import Derived.OneCell
import Derived.Test.YtombmdaohcjokaaGreatDoorKX04
import Derived.Test.YtombmdaohcjokaaGreatDoorKX01
import Derived.Laws.Bits64
namespace Go.Proofs.YtombmdaohcjokaaGreatDoor
open Go.RowKit Go.Deep
inductive Runs:List (List Row)→Prop
 |nil:Runs []
 |snoc (rs:List (List Row)) (run:List Row) (v:List Val):Runs rs→run≠ []→(∀r∈run,r.vals=v)→(∀p,rs.flatten.getLast?=some p→p.vals≠v)→Runs (rs ++ [run])
theorem Runs.at {rs:List (List Row)} (h:Runs rs) (t:Nat) (ht:t<rs.length) : ∃v,rs[t]≠ []∧(∀r∈rs[t],r.vals=v)∧ ∀p,(rs.take t).flatten.getLast?=some p→p.vals≠v:=by
 induction h with
 |nil=>simp at ht
 |snoc rs run v h1 h2 h3 h4 ih =>
  by_cases hlt:t<rs.length
  ·obtain⟨v',g1,g2,g3⟩:=ih hlt
   have e:(rs ++ [run])[t]=rs[t]:=List.getElem_append_left hlt
   rw [e,List.take_append_of_le_length (by omega)]
   exact⟨v',g1,g2,g3⟩
  ·have:t=rs.length:=by simp at ht;omega
   subst this
   have e:(rs ++ [run])[rs.length]=run:=by simp
   rw [e]
   refine⟨v,h2,h3,?_⟩
   rw [List.take_left']
   ·exact h4
   ·rfl
def RunsTo (l:List Row) (k:Nat) (done:List (List Row)) (cur:List Row):Prop :=
 ∃v,Runs done∧cur≠ []∧(∀r∈cur,r.vals=v)∧(∀p,done.flatten.getLast?=some p→p.vals≠v)∧done.flatten++cur=l.take k
theorem RunsTo.start (l:List Row) (h:0<l.length):RunsTo l 1 [] [l[0]] :=
 ⟨l[0].vals,.nil,by simp,by simp,by simp,by rw [List.take_succ_eq_append_getElem h];simp⟩
theorem RunsTo.last {l:List Row} {k:Nat} {done:List (List Row)} {cur:List Row} (h:RunsTo l k done cur) (hk:0<k) (hkl:k≤l.length):(∀r∈cur,r.vals=(l[k - 1]'(by omega)).vals)∧cur.getLast?=some (l[k - 1]'(by omega)):=by
 obtain⟨v,h1,h2,h3,h4,h5⟩:=h
 have e:(l.take k).getLast?=some (l[k - 1]'(by omega)):=by
  rw [List.getLast?_take]
  rw [if_neg (by omega),List.getElem?_eq_getElem (by omega)]
  rfl
 have e2:cur.getLast?=some (l[k - 1]'(by omega)):=by
  rw [←h5,List.getLast?_append]at e
  cases hc:cur.getLast? with
  |none=>exact(h2 (List.getLast?_eq_none_iff.1 hc)).elim
  |some x=>rw [hc]at e;simpa using e
 have e3:(l[k - 1]'(by omega)).vals=v:=h3 _ (List.mem_of_getLast? e2)
 exact⟨by rw [e3];exact h3,e2⟩
theorem RunsTo.same {l:List Row} {k:Nat} {done:List (List Row)} {cur:List Row} (h:RunsTo l k done cur) (hk:0<k) (hkl:k<l.length) (he:(l[k - 1]'(by omega)).vals=l[k].vals):RunsTo l (k+1) done (cur ++ [l[k]]):=by
 obtain⟨g1,g2⟩:=h.last hk (by omega)
 obtain⟨v,h1,h2,h3,h4,h5⟩:=h
 have hv:l[k].vals=v:=by rw [←he];exact h3 _ (List.mem_of_getLast? g2)
 refine⟨v,h1,by simp,fun r hr=> ?_,h4,?_⟩
 ·rcases List.mem_append.1 hr with hr | hr
  ·exact h3 r hr
  ·rw [List.mem_singleton.1 hr];exact hv
 ·rw [List.take_succ_eq_append_getElem hkl,←List.append_assoc,h5]
theorem RunsTo.close {l:List Row} {k:Nat} {done:List (List Row)} {cur:List Row} (h:RunsTo l k done cur):Runs (done ++ [cur])∧(done ++ [cur]).flatten=l.take k:=by
 obtain⟨v,h1,h2,h3,h4,h5⟩:=h
 refine⟨.snoc _ _ v h1 h2 h3 h4,?_⟩
 rw [List.flatten_append]
 simpa using h5
theorem RunsTo.next {l:List Row} {k:Nat} {done:List (List Row)} {cur:List Row} (h:RunsTo l k done cur) (hk:0<k) (hkl:k<l.length) (he:(l[k - 1]'(by omega)).vals≠l[k].vals):RunsTo l (k+1) (done ++ [cur]) [l[k]]:=by
 obtain⟨g1,g2⟩:=h.last hk (by omega)
 obtain⟨h1,h2⟩:=h.close
 refine⟨l[k].vals,h1,by simp,by simp,fun p hp=> ?_,?_⟩
 ·rw [List.flatten_append,List.getLast?_append]at hp
  simp only [List.flatten_cons,List.flatten_nil,List.append_nil]at hp
  rw [g2]at hp
  simp at hp
  rw [←hp]
  exact he
 ·rw [List.take_succ_eq_append_getElem hkl,h2]
structure RunsAt (w:World) (base:Nat) (e1 e2:TypeId) (v u:Value) (done:List (List Row)) (cur:List Row):Prop where
 us : ∃css,RepAll (Rep.slice Rep.row) (on w (fun k=>some k≠v.ownBlock∧some k≠u.ownBlock)) css done∧w.ownsRow base e1 1 v (done.length+1) (css.flatten ++ [u])
 cur:OwnOf Rep.row w (fun k=>k<base) base e2 u cur
 ne : ∀k,u.ownBlock=some k→v.ownBlock≠some k
theorem vslice_own {w:World} {base:Nat} {e:TypeId} {size:Nat} {v:Value} {n:Nat} {xs:List Value} (h:w.ownsRow base e size v n xs):VSlice (on w (fun k=>v.ownBlock=some k)) v n xs:=by
 rcases h.2 with ⟨hv,h0⟩ | ⟨g,cap,cur,hv,hb,hg,h1,h2,_,_⟩
 ·subst h0
  exact .inl ⟨hv,rfl,List.eq_nil_of_length_eq_zero (by rw [h.1];simp)⟩
 ·refine .inr ⟨_,cap,hv,h1,h2,.inr ⟨g,0,rfl,fun j u hj=>on_some.2 ⟨by rw [hv];rfl,?_⟩⟩⟩
  have:=h.cells (g:=g) (by rw [hv];rfl) j u hj
  rwa [add_lit]at this
theorem RunsAt.whole {w:World} {base:Nat} {e1 e2:TypeId} {v u:Value} {done:List (List Row)} {cur:List Row} (h:RunsAt w base e1 e2 v u done cur):OwnOf (Rep.slice Rep.row) w (fun _=>True) base e1 v (done ++ [cur]):=by
 obtain⟨⟨css,h1,h2⟩,h3,h4⟩:=h
 obtain⟨dss,h5,h6⟩:=h3
 refine⟨css ++ [[u]],(h1.ext (on_mono _ fun k _ hk=>⟨hk.1,trivial⟩)).append (RepAll.one ⟨u,rfl,dss,h5.ext (on_mono _ fun k _ hk=>⟨fun he=> ?_,trivial⟩),(vslice_own h6).sub (on_mono _ fun k _ hk=>⟨fun he=>h4 k hk he.symm,trivial⟩)⟩),?_⟩
 ·have:=(h2.lt k he.symm).1
  have:=hk.2
  omega
 ·rw [show (Rep.slice Rep.row).size=1 from rfl]
  simpa using h2
section
variable {P:Program} {w:World} {ops:Array Oper} {rest:List Oper} {o:Oper} {a:Act} {Q:Exit→Act→World→Prop}
theorem wpList_append_run (hgd:o.guard=none) (s x:Operand) (t:TypeId)
  (ho:o.op = .call { callee:= .builtin .append,args:= #[s,x],argTypes:= #[t,t] })
  (base:Nat) (e e2:TypeId) (i:TypeInfo) (z:Value) (ht:P.underlying t=some (.slice e)) (hi:P.info? e=some i) (hz:i.zero=some z)
  (hsize:i.size=1) (hby:i.bytes=24) (hzs:z.cells.size=1)
  (v:Value) (rs:List (List Row)) (hs:a.eval s=v) (hown:OwnOf (Rep.slice Rep.row) w (fun _=>True) base e v rs)
  (ad:Addr) (c:Nat) (hx:a.eval x = .slice (some ad) 1 c) (hnews:w.cell? (ad.add 0)=some (.slice none 0 0))
  (h63:rs.length+1≤1048577) (hbase:base≤w.heap.size)
  (h : ∀g cap w',RunsAt w' base e e2 (.slice (some ⟨g,0,none⟩) (rs.length+1) cap) (.slice none 0 0) rs []→w.grownBy w' v.ownBlock→wpList P ops Q rest (a.put o.dst (.slice (some ⟨g,0,none⟩) (rs.length+1) cap)) w'):wpList P ops Q (o::rest) a w:=by
 have hlt:=hown.lt
 obtain⟨css,h1,h2⟩:=hown
 refine wpList_append_lies w hgd s x t ho base e i z 1 24 ht hi hz hsize hby hzs (by decide) v rs.length css.flatten hs h2 ad 1 c [.slice none 0 0] hx (by simp) (fun j u hj=> ?_) (fun u hu=> ?_) (by omega) (by unfold maxLen;omega) (by omega) hbase w.heap.size rfl
  fun g cap w' g1 g2 g3 _=>h g cap w' ⟨⟨css,h1.ext ?_,g1⟩,OwnOf.nil _ _ _ _ _,fun k hk=>by cases hk⟩ g2
 ·cases j with
  |zero=>simp at hj;rw [←hj];exact hnews
  |succ j=>simp at hj
 ·rw [List.mem_singleton.1 hu];rfl
 ·intro p u e
  obtain⟨e1,e2⟩:=on_some.1 e
  have hp:=World.block_lt_of_cell? w p e2
  refine on_some.2 ⟨⟨fun he=> ?_,fun he=>by cases he⟩,g2.cell e2 e1.1⟩
  injection he with he
  simp only at he
  rcases g3 with g3 | g3
  ·exact e1.1 (by rw [g3,he])
  ·omega
theorem step_append_one {α:Type} {K:Act→World→Prop} {E:Prop} (R:Rep α) (S:Nat→Prop) (hgd:o.guard=none) (s x:Operand) (t:TypeId)
  (ho:o.op = .call { callee:= .builtin .append,args:= #[s,x],argTypes:= #[t,t] })
  (base:Nat) (e:TypeId) (i:TypeInfo) (z:Value) (bytes:Nat) (ht:P.underlying t=some (.slice e)) (hi:P.info? e=some i) (hz:i.zero=some z)
  (hsize:i.size=R.size) (hby:i.bytes=bytes) (hzs:z.cells.size=R.size) (hsz:0<R.size)
  (v:Value) (xs:List α) (hs:a.eval s=v) (hown:OwnOf R w S base e v xs)
  (ad:Addr) (c:Nat) (y:α) (news:List Value) (hx:a.eval x = .slice (some ad) 1 c) (hy:R.holds (on w (avoid S v)) news y) (hnews : ∀j u,news[j]?=some u→w.cell? (ad.add j)=some u)
  (h63:xs.length+1≤maxLen) (hbytes:(xs.length+1)*bytes≤140737488355328) (hbase:base≤w.heap.size)
  (h : ∀g cap w',OwnOf R w' S base e (.slice (some ⟨g,0,none⟩) (xs.length+1) cap) (xs ++ [y])→w.grownBy w' v.ownBlock→(v.ownBlock=some g∨g=w.heap.size)→K (a.put o.dst (.slice (some ⟨g,0,none⟩) (xs.length+1) cap)) w') :
  if Region.wanted o (yielded ops a.tmps)=true then Oper.wp P o a w K Q else E:=by
 obtain⟨css,h1,h2⟩:=hown
 exact step_append_lies w hgd s x t ho base e i z R.size bytes ht hi hz hsize hby hzs hsz v xs.length css.flatten hs h2 ad 1 c news hx (by rw [R.len hy,Nat.one_mul]) hnews (R.one hy) (by omega) h63 hbytes hbase w.heap.size rfl
  fun g cap w' g1 g2 g3 _=>h g cap w' (OwnOf.push h1 hy g1 g2 g3) g2 g3
end
theorem RunsAt.push {w w3:World} {base:Nat} {e1 e2:TypeId} {u u':Value} {g cap:Nat} {done:List (List Row)} {cur cur':List Row} (h:RunsAt w base e1 e2 (.slice (some ⟨g,0,none⟩) (done.length+1) cap) u done cur) (hown:OwnOf Rep.row w3 (fun k=>k<base) base e2 u' cur') (hg:w.grownBy w3 u.ownBlock) (hat:u'.ownBlock=u.ownBlock∨u'.ownBlock=some w.heap.size) :
  RunsAt (w3.setCell ⟨g,done.length,none⟩ u') base e1 e2 (.slice (some ⟨g,0,none⟩) (done.length+1) cap) u' done cur':=by
 obtain⟨⟨css,h1,h2⟩,h3,h4⟩:=h
 have hgl:=h2.lt g rfl
 have hgu:some g≠u'.ownBlock:=fun e=>by
  rcases hat with hat | hat
  ·exact h4 g (by rw [←hat,←e]) rfl
  ·rw [hat]at e;injection e with e;omega
 have hgu0:some g≠u.ownBlock:=fun e=>h4 g e.symm rfl
 have hlen:css.flatten.length=done.length:=by rw [h1.flat];simp [Rep.slice]
 have h5:=((h2.kept hg (.inr fun e=>hgu0 (by rw [←e];rfl))).stored done.length u').1
 refine⟨⟨css,h1.ext ?_,by rw [List.set_append,if_neg (by omega),hlen,Nat.sub_self]at h5;exact h5⟩,?_,fun k hk he=>hgu (by rw [hk];exact he)⟩
 ·intro p x e
  obtain⟨⟨e1,e2⟩,e3⟩:=on_some.1 e
  have hp:=World.block_lt_of_cell? w p e3
  refine on_some.2 ⟨⟨e1,fun he=> ?_⟩,cell_set (hg.cell e3 e2) fun e=>e1 (by rw [←e];rfl)⟩
  rcases hat with hat | hat
  ·exact e2 (by rw [he,hat])
  ·rw [hat]at he;injection he with he;omega
 ·obtain⟨dss,h6,h7⟩:=hown
  refine⟨dss,h6.ext (set_sub _ _ _ fun hh=> ?_),ownsRow_setCell_other h7 (fun e=>hgu e.symm) u'⟩
  have:=hh.2
  simp at this
  omega
theorem infoRows:(Tryz.prog.info? 40).map (fun i=>(i.zero,i.size,i.bytes))=some (some (.slice none 0 0),1,24):=by kernel_rfl
theorem grown_cell {w w':World} {row:Option Nat} {p:Addr} {v:Value} (hg:w.grownBy w' row) (h:w.cell? p=some v) (hf:w.frozen? p=false) (hne:some p.block≠row):w'.cell? p=some v∧w'.frozen? p=false :=
 ⟨hg.cell h hne,(World.frozen?_of_block (hg.block _ (World.block_lt_of_cell? w p h) hne)).trans hf⟩
theorem RunsAt.ext {w w':World} {base:Nat} {e1 e2:TypeId} {v u:Value} {done:List (List Row)} {cur:List Row} (h:RunsAt w base e1 e2 v u done cur) (hx:Ext w w'):RunsAt w' base e1 e2 v u done cur:=by
 obtain⟨⟨css,h1,h2⟩,h3,h4⟩:=h
 exact⟨⟨css,h1.ext (hx.sub _),own_ext h2 hx⟩,h3.ext hx,h4⟩
theorem RunsAt.lit {w:World} {base:Nat} {e1 e2:TypeId} {g n cap:Nat} {u:Value} {done:List (List Row)} {cur:List Row} (h:RunsAt w base e1 e2 (.slice (some ⟨g,0,none⟩) n cap) u done cur) :
  base≤g∧g<w.heap.size∧w.cell? ⟨g,done.length,none⟩=some u∧w.frozen? ⟨g,done.length,none⟩=false∧some g≠u.ownBlock∧ ∀k,u.ownBlock=some k→base≤k∧k<w.heap.size:=by
 obtain⟨⟨css,h1,h2⟩,h3,h4⟩:=h
 have hn:n=done.length+1:=by
  rcases h2.2 with ⟨e,_⟩ | ⟨_,_,_,e,_⟩
  ·cases e
  ·injection e
 subst hn
 have hl:=h2.lt g rfl
 have hlen:css.flatten.length=done.length:=by rw [h1.flat];simp [Rep.slice]
 refine⟨hl.1,hl.2,?_,h2.frozenAt _,fun e=>h4 g e.symm rfl,h3.lt⟩
 rw [h2.cellAt _ (by omega),List.getElem?_append_right (by omega),hlen,Nat.sub_self]
 rfl
theorem RunsAt.form {w:World} {base:Nat} {e1 e2:TypeId} {v u:Value} {done:List (List Row)} {cur:List Row} (h:RunsAt w base e1 e2 v u done cur) :
  (∃g cap,v = .slice (some ⟨g,0,none⟩) (done.length+1) cap)∧ ∃a cap,u = .slice a cur.length cap:=by
 obtain⟨⟨css,h1,h2⟩,h3,h4⟩:=h
 obtain⟨g,cap,e,_⟩:=own_cells h2 (by omega)
 obtain⟨a,c,e2,_⟩:=h3.slice.form
 exact⟨⟨g,cap,e⟩,a,c,e2⟩
theorem Runs.few {rs:List (List Row)} (h:Runs rs):rs.length≤rs.flatten.length:=by
 induction h with
 |nil=>simp
 |snoc rs run v h1 h2 h3 h4 ih =>
  have:=List.length_pos_iff.2 h2
  simp at ih ⊢
  omega
theorem RunsTo.lens {l:List Row} {k:Nat} {done:List (List Row)} {cur:List Row} (h:RunsTo l k done cur) (hk:k≤l.length):done.length+cur.length≤k:=by
 obtain⟨v,h1,_,_,_,h5⟩:=h
 have:=h1.few
 have h6:(done.flatten++cur).length=k:=by rw [h5];simp;omega
 rw [List.length_append]at h6
 omega
set_option maxRecDepth 100000 in
set_option maxHeartbeats 4000000 in
theorem runs_rows (v:Value) (l:List Row) (w:World) (hv:SliceOf Rep.row w.cell? v l) (hf:l.length≤1048576) :
  Calls Tryz.prog 121 #[v] w fun e w'=> ∃v' rs,e = .returned v'∧Runs rs∧rs.flatten=l∧SliceOf (Rep.slice Rep.row) w'.cell? v' rs∧Ext w w':=by
 obtain⟨i0,hi,hz0,hz1,hz2⟩:=info_parts infoRow
 obtain⟨i1,hi1,hy0,hy1,hy2⟩:=info_parts infoRows
 obtain⟨pa,ca,rfl,ha1,ha2,ha3⟩:=hv.form
 have A0:=Lib.hid (hv.ext (full_on w (fun k=>k<w.heap.size) fun k hk=>hk))
 unfold maxLen at ha2
 clear hv
 go_enter Tryz.func121,Tryz.ntmps121
 go_wp2_with fail
 go_loopg [3,8] l.length (fun gk out i wr=> ∃k:Nat,k≤l.length∧gk=l.length - k∧i = .int .i64 k∧((k=0∧out = .slice none 0 0)∨ ∃u done cur,RunsAt wr w.heap.size 40 58 out u done cur∧RunsTo l k done cur)∧Below w.heap.size w wr)
 case atStart=>exact⟨0,by omega,rfl,rfl,.inl ⟨rfl,rfl⟩,Below.refl _ _⟩
 case round =>
  obtain⟨k,hk,rfl,rfl,hst,hbw⟩:=hrel
  by_cases hlt:k<l.length
  ·obtain⟨ba,oa,rfl⟩:=ha3 (by decide) (by omega)
   by_cases hk0:k=0
   ·subst hk0
    obtain⟨_,rfl⟩ | hst:=hst
    ·obtain⟨u1,u2,c1,c2,s1,s2⟩:=row_at A0.out 0 hlt
     replace c1:=(on_some.1 (below_sub hbw (fun _ h=>h) _ _ c1)).2
     replace c2:=(on_some.1 (below_sub hbw (fun _ h=>h) _ _ c2)).2
     simp only [Nat.zero_mul,Nat.add_zero]at c1 c2
     have hto:=RunsTo.start l (by omega)
     generalize hxe:l[0]=x at s1 s2 hto
     have S1:=Lib.hid s1
     have S2:=Lib.hid s2
     obtain⟨p1,q1,rfl,_⟩:=s1.form
     obtain⟨p2,q2,rfl,_⟩:=s2.form
     have e1:=cell_lt c1
     have hd:decide ((0:Int)<(l.length:Int))=true:=by simp;omega
     have hd1:(0:Int)<(l.length:Int):=by omega
     clear s1 s2
     clear hxe
     have HTO0:=Lib.hid hto
     clear hto
     go_wp2_with fail
     have d1:(wr.alloc (.cells #[.slice p1 x.vals.length q1,.slice p2 x.lin.length q2] 58)).cell? ⟨wr.heap.size,0,none⟩=some (.slice p1 x.vals.length q1):=by go_simp
     have d2:(wr.alloc (.cells #[.slice p1 x.vals.length q1,.slice p2 x.lin.length q2] 58)).cell? ⟨wr.heap.size,1,none⟩=some (.slice p2 x.lin.length q2):=by go_simp
     have hxa:=(Gro.refl wr).alloc (.cells #[.slice p1 x.vals.length q1,.slice p2 x.lin.length q2] 58)
     generalize wr.alloc (.cells #[.slice p1 x.vals.length q1,.slice p2 x.lin.length q2] 58)=wa at d1 d2 hxa ⊢
     obtain⟨rs,HTO,HOW0,hrs⟩ : ∃rs:List (List Row),RowKit.Hid (RunsTo l (0+1) rs [x])∧RowKit.Hid (OwnOf (Rep.slice Rep.row) wa (fun _=>True) w.heap.size 40 (.slice none 0 0) rs)∧rs.length≤1048576:=⟨[],HTO0,Lib.hid (OwnOf.nil _ _ _ _ _),by simp⟩
     clear HTO0
     go_quiet (fail)
     have hfin:=(Gro.refl wa).drewN nq
     replace d1:=hfin.at d1
     replace d2:=hfin.at d2
     have hb5:=Below.trans hbw ((hxa.trans hfin).ext.mono hbw.size)
     have HOW1:=Lib.hid (HOW0.out.ext hfin.ext)
     clear c1 c2 e1 hfin HOW0
     have HOW:=Lib.hid (HOW1.out)
     have hrl:rs.length+1≤1048577:=by have:=hrs;omega
     go_wp2_with (at_builtin;refine wpList_append_run rfl _ _ 106 rfl w.heap.size 40 58 i1 _ Tryz.underlying106 hi1 hy0 hy1 hy2 rfl _ (rs) rfl (HOW.out.ext ((Ext.refl _).alloc _)) ⟨_,0,none⟩ 1 rfl ?c1 hrl ?c2 ?_)
     case c1=>exact cells_new _ [.slice none 0 0] _ 0 _ rfl
     case c2=>have:=hb5.size;(try simp at this);simp;omega
     intro g cap w6 hr6 hg6
     have hb6:=Below.grown (Below.alloc hb5 hb5.size _) hg6 (by have:=hb5.size;(try simp at this);simp;omega) (fun j hj=>(HOW.out.lt j hj).1)
     have HR:=Lib.hid hr6
     have hnb:some wr.heap.size≠Value.ownBlock (.slice none 0 0):=fun e=>by cases e
     replace d1:=hg6.cell (((Ext.refl _).alloc _).at d1) hnb
     replace d2:=hg6.cell (((Ext.refl _).alloc _).at d2) hnb
     clear hr6 hg6 hnb HOW hb5
     obtain⟨hgb1,hgl,hu,hfz,hne,hcb⟩:=HR.out.lit
     have HNE:=Lib.hid hne
     have HCB:=Lib.hid hcb
     have hcl:([]:List Row).length+1≤1048577:=by have:=hrs;first | omega | (simp;done) | (simp;omega)
     have hin:(0:Int)≤(rs.length:Int):=by omega
     have hin2:(rs.length:Int)<(rs.length:Int)+1:=by omega
     have b6:=cell_lt d1
     have hwn:IntKind.i64.wrap (rs.length:Int)=(rs.length:Int):=Go.IntWalk.i64_in _ (by have:=hrs;omega)
     clear hne hcb
     go_wp2_with fail
     go_region_law (first | (refine step_append_one Rep.row (fun k=>k<w.heap.size) rfl _ _ 40 rfl w.heap.size 58 i0 _ 48 Tryz.underlying40 hi hz0 hz1 hz2 rfl (by decide) (.slice none 0 0) ([]:List Row) rfl (HR.out.cur.ext ((Ext.refl _).alloc _).drew) ⟨_,0,none⟩ 1 x [.slice p1 x.vals.length q1,.slice p2 x.lin.length q2] rfl (by exact⟨_,_,rfl,S1.out.ext (old_avoid (Below.drew (Below.alloc hb6 hb6.size _)) (HR.out.cur.ext ((Ext.refl _).alloc _).drew)),S2.out.ext (old_avoid (Below.drew (Below.alloc hb6 hb6.size _)) (HR.out.cur.ext ((Ext.refl _).alloc _).drew))⟩) (by exact cells_new _ [.slice p1 x.vals.length q1,.slice p2 x.lin.length q2] _) (by unfold maxLen;omega) (by omega) (by have:=hb6.size;simp;omega) ?_;intro g3 cap3 w8 hown8 hg8 hat8;obtain⟨k1,k2⟩:=grown_cell hg8 (((Ext.refl w6).alloc _).drew.at hu) (((Ext.refl w6).alloc _).drew.unfrozen hu hfz) HNE.out))
     all_goals
      have hr9:=(HR.out.ext ((Ext.refl w6).alloc _).drew).push hown8 hg8 (hat8.elim (fun h=> .inl h.symm) fun h=> .inr (by rw [h];rfl))
      have hb9:=Below.setCell (Below.grown (Below.drew (Below.alloc hb6 hb6.size _)) hg8 (by have:=hb6.size;simp;omega) (fun j hj=>(HCB.out j hj).1)) (p:=⟨g,rs.length,none⟩) hgb1 (.slice (some ⟨g3,0,none⟩) (([]:List Row).length+1) cap3)
      have H9:=Lib.hid hr9
      clear k1 k2 hr9 d1 d2 hu hfz hown8 hg8 hat8
      go_wp2_with fail
      go_roundg (l.length - (0+1))
      case measure=>omega
      case rel=>exact⟨0+1,by omega,rfl,by go_num,.inr ⟨_,_,_,H9.out,HTO.out⟩,hb9⟩
    ·obtain⟨_,_,_,_,hto⟩:=hst
     obtain⟨_,_,h2,_,_,h5⟩:=hto
     rw [List.take_zero]at h5
     exact(h2 (List.append_eq_nil_iff.1 h5).2).elim
   ·obtain⟨h0,_⟩ | hst:=hst
    ·exact(hk0 h0).elim
    ·obtain⟨j,rfl⟩ : ∃j,k=j+1:=⟨k - 1,by omega⟩
     obtain⟨u0,done,cur,hra,hto⟩:=hst
     obtain⟨u1,u2,c1,c2,s1,s2⟩:=row_at A0.out (j+1) hlt
     replace c1:=(on_some.1 (below_sub hbw (fun _ h=>h) _ _ c1)).2
     replace c2:=(on_some.1 (below_sub hbw (fun _ h=>h) _ _ c2)).2
     obtain⟨u3,u4,f1,f2,t1,t2⟩:=row_at A0.out j (by omega)
     replace f1:=(on_some.1 (below_sub hbw (fun _ h=>h) _ _ f1)).2
     have htoS:l[j].vals=l[j+1].vals→_:=fun h=>hto.same (by omega) hlt h
     have htoN:l[j].vals≠l[j+1].vals→_:=fun h=>hto.next (by omega) hlt h
     have hcl2:=hto.lens (by omega)
     generalize l[j+1]=x at s1 s2 htoS htoN
     generalize l[j]=y at t1 htoS htoN
     have S1:=Lib.hid s1
     have S2:=Lib.hid s2
     obtain⟨p1,q1,rfl,_⟩:=s1.form
     obtain⟨p2,q2,rfl,_⟩:=s2.form
     have e1:=cell_lt c1
     have hd:decide ((j:Int)+1<(l.length:Int))=true:=by simp;omega
     have hd1:(j:Int)+1<(l.length:Int):=by omega
     clear s1 s2
     have T1:=Lib.hid t1
     obtain⟨p3,q3,rfl,_⟩:=t1.form
     clear t1 t2 f2
     have HS:=Lib.hid htoS
     have HN:=Lib.hid htoN
     have hk3:(0:Int)≤(j:Int):=by omega
     have hk6:IntKind.i64.wrap (j:Int)=(j:Int):=Go.IntWalk.i64_in _ (by omega)
     have hk4:(j:Int)<(l.length:Int):=by omega
     have hk5:((j:Int)+1==0)=false:=by simp;omega
     obtain⟨⟨g,cap,rfl⟩,pu,cu,rfl⟩:=hra.form
     have hgl0:=hra.lit.2.1
     clear htoS htoN hto
     go_wp2_with fail
     have d1:(wr.alloc (.cells #[.slice p1 x.vals.length q1,.slice p2 x.lin.length q2] 58)).cell? ⟨wr.heap.size,0,none⟩=some (.slice p1 x.vals.length q1):=by go_simp
     have d2:(wr.alloc (.cells #[.slice p1 x.vals.length q1,.slice p2 x.lin.length q2] 58)).cell? ⟨wr.heap.size,1,none⟩=some (.slice p2 x.lin.length q2):=by go_simp
     have hxa:=(Gro.refl wr).alloc (.cells #[.slice p1 x.vals.length q1,.slice p2 x.lin.length q2] 58)
     generalize wr.alloc (.cells #[.slice p1 x.vals.length q1,.slice p2 x.lin.length q2] 58)=wa at d1 d2 hxa ⊢
     have hsv:Sub (on w (fun k=>k<w.heap.size)) wa.cell?:=(below_sub hbw (fun _ h=>h)).trans ((on_sub _ _).trans hxa.ext.full)
     replace f1:=hxa.at f1
     go_region_held3 (fun w'=>Gro wa w'∧w'.cell? ⟨ba,oa+j*2,none⟩=some (.slice p3 y.vals.length q3)∧w'.cell? ⟨wr.heap.size,0,none⟩=some (.slice p1 x.vals.length q1))
      (first |exact⟨(Gro.refl wa).drew,f1,d1⟩ | assumption | exact keepG2 (by assumption) hx2)
      (first |(go_at_call 72;refine(compareRows_any _ _ y.vals x.vals _ (by exact T1.out.ext (hsv.trans (And.left ‹Gro wa _∧_›).ext.full)) (by exact S1.out.ext (hsv.trans (And.left ‹Gro wa _∧_›).ext.full))).mono ?_;rintro e w2 ⟨rfl,hx2⟩))
     obtain⟨hfin,_⟩:= ‹Gro wa _∧_›
     replace d1:=hfin.at d1
     replace d2:=hfin.at d2
     have hb5:=Below.trans hbw ((hxa.trans hfin).ext.mono hbw.size)
     have hr5:=hra.ext (hxa.trans hfin).ext
     have H5:=Lib.hid hr5
     clear c1 c2 e1 f1 hra hr5
     generalize hq:cmpVals y.vals x.vals=q
     have HQ:=Lib.hid hq
     clear hq
     by_cases hq0:q=0
     ·have hqb:(q != 0)=false:=by simp [hq0]
      have HTO:=Lib.hid (HS.out ((ord_vals.eq _ _).1 (by rw [HQ.out,hq0])))
      clear hq0
      have HR:=H5
      have hb6:=hb5
      obtain⟨hgb1,hgl,hu,hfz,hne,hcb⟩:=HR.out.lit
      have HNE:=Lib.hid hne
      have HCB:=Lib.hid hcb
      have hcl:cur.length+1≤1048577:=by have:=hcl2;first | omega | (simp;done) | (simp;omega)
      have hin:(0:Int)≤(done.length:Int):=by omega
      have hin2:(done.length:Int)<(done.length:Int)+1:=by omega
      have b6:=cell_lt d1
      have hwn:IntKind.i64.wrap (done.length:Int)=(done.length:Int):=Go.IntWalk.i64_in _ (by have:=hcl2;omega)
      clear hne hcb
      go_wp2_with fail
      go_region_law (first | (refine step_append_one Rep.row (fun k=>k<w.heap.size) rfl _ _ 40 rfl w.heap.size 58 i0 _ 48 Tryz.underlying40 hi hz0 hz1 hz2 rfl (by decide) (.slice pu cur.length cu) cur rfl (HR.out.cur.ext ((Ext.refl _).alloc _).drew) ⟨_,0,none⟩ 1 x [.slice p1 x.vals.length q1,.slice p2 x.lin.length q2] rfl (by exact⟨_,_,rfl,S1.out.ext (old_avoid (Below.drew (Below.alloc hb6 hb6.size _)) (HR.out.cur.ext ((Ext.refl _).alloc _).drew)),S2.out.ext (old_avoid (Below.drew (Below.alloc hb6 hb6.size _)) (HR.out.cur.ext ((Ext.refl _).alloc _).drew))⟩) (by exact cells_new _ [.slice p1 x.vals.length q1,.slice p2 x.lin.length q2] _) (by unfold maxLen;omega) (by omega) (by have:=hb6.size;simp;omega) ?_;intro g3 cap3 w8 hown8 hg8 hat8;obtain⟨k1,k2⟩:=grown_cell hg8 (((Ext.refl w2).alloc _).drew.at hu) (((Ext.refl w2).alloc _).drew.unfrozen hu hfz) HNE.out))
      all_goals
       have hr9:=(HR.out.ext ((Ext.refl w2).alloc _).drew).push hown8 hg8 (hat8.elim (fun h=> .inl h.symm) fun h=> .inr (by rw [h];rfl))
       have hb9:=Below.setCell (Below.grown (Below.drew (Below.alloc hb6 hb6.size _)) hg8 (by have:=hb6.size;simp;omega) (fun j hj=>(HCB.out j hj).1)) (p:=⟨g,done.length,none⟩) hgb1 (.slice (some ⟨g3,0,none⟩) (cur.length+1) cap3)
       have H9:=Lib.hid hr9
       clear k1 k2 hr9 d1 d2 hu hfz hown8 hg8 hat8
       go_wp2_with fail
       go_roundg (l.length - (j+1+1))
       case measure=>omega
       case rel=>exact⟨j+1+1,by omega,rfl,by go_num,.inr ⟨_,_,_,H9.out,HTO.out⟩,hb9⟩
     ·have hqb:(q != 0)=true:=by simp [hq0]
      have hto:=HN.out fun e=>hq0 (by rw [←HQ.out];exact(ord_vals.eq _ _).2 e)
      have how0:=H5.out.whole
      have hrs:(done ++ [cur]).length≤1048576:=by simp;omega
      clear hq0 HN HS
      generalize done ++ [cur]=rs at hto how0 hrs
      have HTO:=Lib.hid hto
      have HOW0:=Lib.hid how0
      clear hto how0
      have HOW:=Lib.hid (HOW0.out)
      have hrl:rs.length+1≤1048577:=by have:=hrs;omega
      go_wp2_with (at_builtin;refine wpList_append_run rfl _ _ 106 rfl w.heap.size 40 58 i1 _ Tryz.underlying106 hi1 hy0 hy1 hy2 rfl _ (rs) rfl (HOW.out.ext ((Ext.refl _).alloc _)) ⟨_,0,none⟩ 1 rfl ?c1 hrl ?c2 ?_)
      case c1=>exact cells_new _ [.slice none 0 0] _ 0 _ rfl
      case c2=>have:=hb5.size;(try simp at this);simp;omega
      intro g' cap' w6 hr6 hg6
      have hb6:=Below.grown (Below.alloc hb5 hb5.size _) hg6 (by have:=hb5.size;(try simp at this);simp;omega) (fun j hj=>(HOW.out.lt j hj).1)
      have HR:=Lib.hid hr6
      have hnb:some wr.heap.size≠(Value.slice (some ⟨g,0,none⟩) (done.length+1) cap).ownBlock:=fun e=>by injection e with e;simp only at e;omega
      replace d1:=hg6.cell (((Ext.refl _).alloc _).at d1) hnb
      replace d2:=hg6.cell (((Ext.refl _).alloc _).at d2) hnb
      clear hr6 hg6 hnb HOW hb5
      obtain⟨hgb1,hgl,hu,hfz,hne,hcb⟩:=HR.out.lit
      have HNE:=Lib.hid hne
      have HCB:=Lib.hid hcb
      have hcl:([]:List Row).length+1≤1048577:=by have:=hrs;first | omega | (simp;done) | (simp;omega)
      have hin:(0:Int)≤(rs.length:Int):=by omega
      have hin2:(rs.length:Int)<(rs.length:Int)+1:=by omega
      have b6:=cell_lt d1
      have hwn:IntKind.i64.wrap (rs.length:Int)=(rs.length:Int):=Go.IntWalk.i64_in _ (by have:=hrs;omega)
      clear hne hcb
      go_wp2_with fail
      go_region_law (first | (refine step_append_one Rep.row (fun k=>k<w.heap.size) rfl _ _ 40 rfl w.heap.size 58 i0 _ 48 Tryz.underlying40 hi hz0 hz1 hz2 rfl (by decide) (.slice none 0 0) ([]:List Row) rfl (HR.out.cur.ext ((Ext.refl _).alloc _).drew) ⟨_,0,none⟩ 1 x [.slice p1 x.vals.length q1,.slice p2 x.lin.length q2] rfl (by exact⟨_,_,rfl,S1.out.ext (old_avoid (Below.drew (Below.alloc hb6 hb6.size _)) (HR.out.cur.ext ((Ext.refl _).alloc _).drew)),S2.out.ext (old_avoid (Below.drew (Below.alloc hb6 hb6.size _)) (HR.out.cur.ext ((Ext.refl _).alloc _).drew))⟩) (by exact cells_new _ [.slice p1 x.vals.length q1,.slice p2 x.lin.length q2] _) (by unfold maxLen;omega) (by omega) (by have:=hb6.size;simp;omega) ?_;intro g3 cap3 w8 hown8 hg8 hat8;obtain⟨k1,k2⟩:=grown_cell hg8 (((Ext.refl w6).alloc _).drew.at hu) (((Ext.refl w6).alloc _).drew.unfrozen hu hfz) HNE.out))
      all_goals
       have hr9:=(HR.out.ext ((Ext.refl w6).alloc _).drew).push hown8 hg8 (hat8.elim (fun h=> .inl h.symm) fun h=> .inr (by rw [h];rfl))
       have hb9:=Below.setCell (Below.grown (Below.drew (Below.alloc hb6 hb6.size _)) hg8 (by have:=hb6.size;simp;omega) (fun j hj=>(HCB.out j hj).1)) (p:=⟨g',rs.length,none⟩) hgb1 (.slice (some ⟨g3,0,none⟩) (([]:List Row).length+1) cap3)
       have H9:=Lib.hid hr9
       clear k1 k2 hr9 d1 d2 hu hfz hown8 hg8 hat8
       go_wp2_with fail
       go_roundg (l.length - (j+1+1))
       case measure=>omega
       case rel=>exact⟨j+1+1,by omega,rfl,by go_num,.inr ⟨_,_,_,H9.out,HTO.out⟩,hb9⟩
  ·have:k=l.length:=by omega
   subst this
   obtain⟨h0,rfl⟩ | ⟨u,done,cur,hra,hto⟩:=hst
   ·have hl:=List.eq_nil_of_length_eq_zero h0
    subst hl
    go_wp2_with fail
    go_ret
    exact⟨_,[],rfl,.nil,rfl,SliceOf.nil _ _,hbw⟩
   ·obtain⟨h1,h2⟩:=hto.close
    rw [List.take_length]at h2
    have hs:=hra.whole.slice
    obtain⟨p,q,rfl,_⟩:=hs.form
    have HS:=Lib.hid hs
    have H1:=Lib.hid h1
    have H2:=Lib.hid h2
    clear hra hto hs h1 h2
    go_wp2_with fail
    go_ret
    exact⟨_,_,rfl,H1.out,H2.out,HS.out,hbw⟩
end Go.Proofs.YtombmdaohcjokaaGreatDoor
namespace Go.Proofs.YtombmdaohcjokaaGreatDoor
open Go.RowKit
structure AggI where
 kind:Int
 arg:Int
def Rep.agg:Rep AggI where
 size:=2
 holds _ cs x:=cs = [.int .i64 x.kind,.int .i64 x.arg]∧okI x.kind∧okI x.arg
 len:=by rintro w cs x ⟨rfl,_⟩;rfl
 ext:=by rintro w w' cs x h _;exact h
 one:=by rintro w cs x ⟨rfl,_⟩;simp [Value.oneCell']
theorem agg_at {h:View} {b o n cap:Nat} {xs:List AggI} (k:SliceOf Rep.agg h (.slice (some ⟨b,o,none⟩) n cap) xs) (i:Nat) (hi:i<xs.length) :
  h ⟨b,o+i*2,none⟩=some (.int .i64 xs[i].kind)∧h ⟨b,o+i*2+1,none⟩=some (.int .i64 xs[i].arg):=by
 obtain⟨c,⟨rfl,_⟩,h2⟩:=k.at i hi
 exact⟨h2 0 _ rfl,h2 1 _ rfl⟩
theorem FreeN.grown {w w':World} {g n:Nat} {row:Option Nat} (h:FreeN w g n) (gr:w.grownBy w' row) (hne:row≠some g):FreeN w' g n:=fun j hj=>by
 obtain⟨⟨z,h1⟩,h2⟩:=h j hj
 have hb:=gr.block g (cell_lt h1) (fun e=>hne e.symm)
 exact⟨⟨z,(World.cell?_of_block (w:=w) hb).trans h1⟩,(World.frozen?_of_block (w:=w) hb).trans h2⟩
def cntV (n:Nat) (vs:List (List Val)):List Val:=List.replicate n (intVal vs.length)
def memV (ms:List Tup) (t:Int):List (List Val):=(ms.filter (holdsAt t)).map Tup.vals
def memL (ms:List Tup) (t:Int):List Int:=(ms.filter (holdsAt t)).flatMap Tup.lin
theorem FreeN.chg {C:Nat→Prop} {w w':World} {g n:Nat} (h:FreeN w g n) (hx:Chg C w w') (hn : ¬C g):FreeN w' g n:=fun j hj=>by
 obtain⟨⟨z,h1⟩,h2⟩:=h j hj
 exact⟨⟨z,hx.at h1 hn⟩,hx.free h1 h2 hn⟩
end Go.Proofs.YtombmdaohcjokaaGreatDoor
namespace Go.Proofs.YtombmdaohcjokaaGreatDoor
open Go.RowKit
end Go.Proofs.YtombmdaohcjokaaGreatDoor
namespace Go.Proofs.YtombmdaohcjokaaGreatDoor
open Go.RowKit
section
open Classical
variable (proj:List Val→List Val) (aggV:List (List Val)→List Val) (always:Bool)
noncomputable def rowsAt (l:List Tup) (t:Int):List Row:=(gKeys proj always l).flatMap fun kv=>if (always=true∧0≤t∧t<1000000)∨(always=false∧(gMem proj l kv).any (holdsAt t)=true)then [gRow aggV kv (gMem proj l kv) t]else []
def lastN (r:Row):Nat:=match r.vals.getLast? with
 |some v=>v.n.toNat
 |none=>0
def sumG (l:List Row):Nat:=(l.map lastN).sum
end
end Go.Proofs.YtombmdaohcjokaaGreatDoor
namespace Go.Proofs.YtombmdaohcjokaaGreatDoor
open Go.RowKit
def argsC (col:Int) (vss:List (List Val)):List Val:=(vss.map fun vs=>colAt vs col).filter fun v=>decide (v.kind≠0)
def sumI (xs:List Val):Int:=((xs.filter fun v=>decide (v.kind=1)).map Val.n).sum
def anyI (xs:List Val):Bool:=xs.any fun v=>decide (v.kind=1)
def sumV (xs:List Val):Val:=if anyI xs=true∧ -9223372036854775808≤sumI xs∧sumI xs≤9223372036854775807 then intVal (sumI xs)else nV
theorem sumI_take (xs:List Val) (k:Nat) (h:k<xs.length):sumI (xs.take (k+1))=sumI (xs.take k)+if xs[k].kind=1 then xs[k].n else 0:=by
 unfold sumI
 rw [List.take_succ_eq_append_getElem h,List.filter_append,List.map_append,List.sum_append]
 congr 1
 rw [List.filter_cons,List.filter_nil]
 by_cases e:xs[k].kind=1
 ·rw [if_pos e,if_pos (by simp [e])];simp
 ·rw [if_neg e,if_neg (by simp [e])];simp
theorem anyI_take (xs:List Val) (k:Nat) (h:k<xs.length):anyI (xs.take (k+1))=(anyI (xs.take k)||decide (xs[k].kind=1)):=by
 unfold anyI
 rw [List.take_succ_eq_append_getElem h,List.any_append,List.any_cons,List.any_nil,Bool.or_false]
theorem sumI_bound {xs:List Val} {b:Int} (hb:0≤b) (h : ∀v∈xs,-b≤v.n∧v.n≤b) : -(b*xs.length)≤sumI xs∧sumI xs≤b*xs.length:=by
 induction xs with
 |nil=>simp [sumI]
 |cons x xs ih =>
  have h1:=ih fun v hv=>h v (by simp [hv])
  have h2:=h x (by simp)
  have e:b*((x::xs).length:Int)=b*xs.length+b:=by rw [List.length_cons];push_cast;rw [Int.mul_add,Int.mul_one]
  have e2:sumI (x::xs)=(if x.kind=1 then x.n else 0)+sumI xs:=by
   unfold sumI
   rw [List.filter_cons]
   by_cases c:x.kind=1
   ·rw [if_pos c,if_pos (by simp [c])];simp
   ·rw [if_neg c,if_neg (by simp [c])];simp
  rw [e,e2]
  split <;> omega
def pickMin:List Val→Val
 |[]=>nV
 |x::xs=>xs.foldl (fun m y=>if cmpVal y m<0 then y else m) x
def pickMax:List Val→Val
 |[]=>nV
 |x::xs=>xs.foldl (fun m y=>if 0<cmpVal y m then y else m) x
theorem fold_min (xs:List Val) : ∀x,(xs.foldl (fun m y=>if cmpVal y m<0 then y else m) x=x∨xs.foldl (fun m y=>if cmpVal y m<0 then y else m) x∈xs)∧cmpVal (xs.foldl (fun m y=>if cmpVal y m<0 then y else m) x) x≤0∧ ∀y∈xs,cmpVal (xs.foldl (fun m y=>if cmpVal y m<0 then y else m) x) y≤0:=by
 induction xs with
 |nil=>exact fun x=>⟨.inl rfl,by rw [List.foldl_nil,(ord_val.eq x x).2 rfl];decide,fun y hy=>by cases hy⟩
 |cons z xs ih =>
  intro x
  rw [List.foldl_cons]
  by_cases c:cmpVal z x<0
  ·rw [if_pos c]
   obtain⟨h1,h2,h3⟩:=ih z
   refine⟨?_,ord_val.le_tr _ _ _ h2 (by omega),fun y hy=> ?_⟩
   ·rcases h1 with h | h
    ·exact .inr (by rw [h];simp)
    ·exact .inr (by simp [h])
   ·rcases List.mem_cons.1 hy with rfl | hy
    ·exact h2
    ·exact h3 y hy
  ·rw [if_neg c]
   obtain⟨h1,h2,h3⟩:=ih x
   refine⟨?_,h2,fun y hy=> ?_⟩
   ·rcases h1 with h | h
    ·exact .inl h
    ·exact .inr (by simp [h])
   ·rcases List.mem_cons.1 hy with rfl | hy
    ·exact ord_val.le_tr _ _ _ h2 (by have:=ord_val.anti x y;omega)
    ·exact h3 y hy
theorem fold_max (xs:List Val) : ∀x,(xs.foldl (fun m y=>if 0<cmpVal y m then y else m) x=x∨xs.foldl (fun m y=>if 0<cmpVal y m then y else m) x∈xs):=by
 induction xs with
 |nil=>exact fun x=> .inl rfl
 |cons z xs ih =>
  intro x
  rw [List.foldl_cons]
  split
  ·rcases ih z with h | h
   ·exact .inr (by rw [h];simp)
   ·exact .inr (by simp [h])
  ·rcases ih x with h | h
   ·exact .inl h
   ·exact .inr (by simp [h])
theorem pickMin_law {xs:List Val} (h:xs≠ []):pickMin xs∈xs∧ ∀y∈xs,cmpVal (pickMin xs) y≤0:=by
 cases xs with
 |nil=>exact absurd rfl h
 |cons x xs =>
  obtain⟨h1,h2,h3⟩:=fold_min xs x
  refine⟨?_,fun y hy=> ?_⟩
  ·show xs.foldl (fun m y=>if cmpVal y m<0 then y else m) x∈x::xs
   rcases h1 with h | h
   ·rw [h];simp
   ·simp [h]
  ·rcases List.mem_cons.1 hy with rfl | hy
   ·exact h2
   ·exact h3 y hy
theorem pickMax_mem {xs:List Val} (h:xs≠ []):pickMax xs∈xs:=by
 cases xs with
 |nil=>exact absurd rfl h
 |cons x xs =>
  show xs.foldl (fun m y=>if 0<cmpVal y m then y else m) x∈x::xs
  rcases fold_max xs x with h | h
  ·rw [h];simp
  ·simp [h]
def aggVal (kind col:Int) (vss:List (List Val)):Val :=
 if kind=1 then intVal vss.length else
 if kind=2 then sumV (argsC col vss)else
 if argsC col vss = []then nV else
 if kind=3 then pickMin (argsC col vss)else
 if kind=4 then pickMax (argsC col vss)else nV
section
open Classical
variable (proj:List Val→List Val) (aggV:List (List Val)→List Val)
end
def wideHi (S:Int):Int:=S / 18446744073709551616
def wideLo (S:Int):Int:=S % 18446744073709551616
end Go.Proofs.YtombmdaohcjokaaGreatDoor
namespace Go.Proofs.YtombmdaohcjokaaGreatDoor
open Go.RowKit
instance:Inhabited ExprI:=⟨⟨0,0,0,0,nV⟩⟩
instance:Inhabited Val:=⟨nV⟩
def arityE (op:Int):Int:=if op=1∨op=2 then 0 else if op=10∨op=11 then 1 else if 3≤op∧op≤9 then 2 else -1
theorem arityE_le (op:Int) : -1≤arityE op∧arityE op≤2:=by
 unfold arityE
 split
 ·omega
 split
 ·omega
 split <;> omega
def opsE (x:ExprI):List Int:= [x.a,x.b].take (arityE x.op).toNat
theorem opsE_len (x:ExprI):(opsE x).length=(arityE x.op).toNat:=by
 have:=arityE_le x.op
 unfold opsE
 rw [List.length_take]
 simp only [List.length_cons,List.length_nil]
 omega
def boolV (b:Bool):Val:=⟨3,if b=true then 1 else 0,ByteArray.empty⟩
def trueV (v:Val):Bool:=decide (v.kind=3)&&decide (v.n=1)
def arithI (op a b:Int):Int:=if op=3 then a+b else if op=4 then a - b else a*b
def fit64 (z:Int):Prop:= -9223372036854775808≤z∧z≤9223372036854775807
instance (z:Int):Decidable (fit64 z):=by unfold fit64;infer_instance
def arithV (op:Int) (a b:Val):Val:=if a.kind=1∧b.kind=1∧fit64 (arithI op a.n b.n)then intVal (arithI op a.n b.n)else nV
def eqV (a b:Val):Bool:=decide (a.kind≠0)&&decide (b.kind≠0)&&decide (cmpVal a b=0)
def lessV (a b:Val):Bool:=decide (a.kind≠0)&&decide (a.kind=b.kind)&&decide (cmpVal a b<0)
def applyV (x:ExprI) (a b:Val) (row:List Val):Val :=
 if x.op=1 then x.c
 else if x.op=2 then colAt row x.col
 else if 3≤x.op∧x.op≤5 then arithV x.op a b
 else if x.op=6 then boolV (eqV a b)
 else if x.op=7 then boolV (lessV a b)
 else if x.op=8 then boolV (trueV a&&trueV b)
 else if x.op=9 then boolV (trueV a||trueV b)
 else if x.op=10 then boolV (!trueV a)
 else if x.op=11 then boolV (decide (a.kind=0))
 else nV
def legalE (i:Nat) (x:ExprI):Bool:=(opsE x).all fun o=>decide (0≤o)&&decide (o<i)
def argE (done:List Val) (o:Int):Val:=done.getD o.toNat nV
def argsE (x:ExprI) (done:List Val):List Val:=(opsE x).map (argE done)
def stepE (row done:List Val) (x:ExprI):Val:=if legalE done.length x=true then applyV x ((argsE x done).getD 0 nV) ((argsE x done).getD 1 nV) row else nV
def evalAll (es:List ExprI) (row:List Val):Nat→List Val
 |0=> []
 |k+1=>evalAll es row k ++ [stepE row (evalAll es row k) es[k]!]
def evalE (es:List ExprI) (root:Int) (row:List Val):Val:=if 0≤root∧root<es.length then(evalAll es row (root.toNat+1)).getD root.toNat nV else nV
theorem evalAll_len (es:List ExprI) (row:List Val) (k:Nat):(evalAll es row k).length=k:=by
 induction k with
 |zero=>rfl
 |succ k ih=>rw [evalAll,List.length_append,ih];rfl
theorem evalAll_get (es:List ExprI) (row:List Val) (k j:Nat) (h:j<k):(evalAll es row k).getD j nV=stepE row (evalAll es row j) es[j]! := by
 induction k with
 |zero=>omega
 |succ k ih =>
  rw [evalAll,List.getD_eq_getElem?_getD]
  by_cases c:j<k
  ·rw [List.getElem?_append_left (by rw [evalAll_len];exact c),←List.getD_eq_getElem?_getD,ih c]
  ·have e:j=k:=by omega
   subst e
   rw [List.getElem?_append_right (by rw [evalAll_len];exact Nat.le_refl _),evalAll_len,Nat.sub_self]
   rfl
theorem evalE_step (es:List ExprI) (row:List Val) (r:Nat) (h:r<es.length):evalE es r row=stepE row (evalAll es row r) es[r]:=by
 unfold evalE
 rw [if_pos ⟨by omega,by omega⟩,Int.toNat_natCast,evalAll_get es row (r+1) r (by omega),getElem!_pos es r h]
theorem ok_intVal {z:Int} (h:fit64 z):okVal (intVal z):=⟨by simp [intVal],h,by simp [intVal,maxLen]⟩
theorem ok_boolV (b:Bool):okVal (boolV b):=⟨by simp [boolV],by cases b <;> simp [boolV],by simp [boolV,maxLen]⟩
theorem ok_arithV (op:Int) (a b:Val):okVal (arithV op a b):=by
 unfold arithV
 split
 ·rename_i h;exact ok_intVal h.2.2
 ·exact ok_nV
theorem ok_applyV {x:ExprI} {row:List Val} (hc:okVal x.c) (hr : ∀v∈row,okVal v) (a b:Val):okVal (applyV x a b row):=by
 unfold applyV
 split
 ·exact hc
 split
 ·exact ok_colAt hr _
 split
 ·exact ok_arithV _ _ _
 iterate 6 (split;· exact ok_boolV _)
 exact ok_nV
theorem ok_evalAll {es:List ExprI} {row:List Val} (he : ∀x∈es,okVal x.c) (hr : ∀v∈row,okVal v) : ∀(k:Nat),k≤es.length→ ∀v∈evalAll es row k,okVal v:=by
 intro k
 induction k with
 |zero=>intro _ v hv;cases hv
 |succ k ih =>
  intro hk v hv
  rw [evalAll]at hv
  rcases List.mem_append.1 hv with hv | hv
  ·exact ih (by omega) v hv
  ·rw [List.mem_singleton]at hv
   subst hv
   unfold stepE
   split
   ·exact ok_applyV (he _ (by rw [getElem!_pos es k (by omega)];exact List.getElem_mem _)) hr _ _
   ·exact ok_nV
theorem ok_getD {l:List Val} (h : ∀v∈l,okVal v) (j:Nat):okVal (l.getD j nV):=by
 rw [List.getD_eq_getElem?_getD]
 by_cases c:j<l.length
 ·rw [List.getElem?_eq_getElem c];exact h _ (List.getElem_mem c)
 ·rw [List.getElem?_eq_none (by omega)];exact ok_nV
theorem ok_evalE {es:List ExprI} {row:List Val} (he : ∀x∈es,okVal x.c) (hr : ∀v∈row,okVal v) (root:Int):okVal (evalE es root row):=by
 unfold evalE
 split
 ·exact ok_getD (ok_evalAll he hr _ (by omega)) _
 ·exact ok_nV
def fitV (v:Val):Prop:=v.s.size≤1048576
theorem fit_nV:fitV nV:=Nat.zero_le _
theorem fit_applyV {x:ExprI} {row:List Val} (hc:fitV x.c) (hr : ∀v∈row,fitV v) (a b:Val):fitV (applyV x a b row):=by
 have hb : ∀b:Bool,fitV (boolV b):=fun b=>Nat.zero_le _
 unfold applyV
 split
 ·exact hc
 split
 ·unfold colAt
  split
  ·rename_i h
   have hlt:x.col.toNat<row.length:=by omega
   rw [List.getD_eq_getElem?_getD,List.getElem?_eq_getElem hlt]
   exact hr _ (List.getElem_mem _)
  ·exact fit_nV
 split
 ·unfold arithV;split
  ·exact Nat.zero_le _
  ·exact fit_nV
 iterate 6 (split;· exact hb _)
 exact fit_nV
theorem fit_evalE {es:List ExprI} {row:List Val} (he : ∀x∈es,fitV x.c) (hr : ∀v∈row,fitV v) (root:Int):fitV (evalE es root row):=by
 by_cases h:0≤root∧root<es.length
 ·obtain⟨r,rfl⟩ : ∃r:Nat,root=r:=⟨root.toNat,by omega⟩
  have hr2:r<es.length:=by omega
  rw [evalE_step es row r hr2]
  unfold stepE
  split
  ·exact fit_applyV (he _ (List.getElem_mem _)) hr _ _
  ·exact fit_nV
 ·unfold evalE
  rw [if_neg h]
  exact fit_nV
end Go.Proofs.YtombmdaohcjokaaGreatDoor
namespace Go.Proofs.YtombmdaohcjokaaGreatDoor
open Go.RowKit
set_option maxHeartbeats 1000000 in
theorem arity_any (op:Int) (w:World):Calls Tryz.prog 223 #[.int .i64 op] w fun e w'=>e = .returned (.int .i64 (arityE op))∧w=w':=by
 by_cases h:1≤op∧op≤11
 ·have h2:op=1∨op=2∨op=3∨op=4∨op=5∨op=6∨op=7∨op=8∨op=9∨op=10∨op=11:=by omega
  clear h
  rcases h2 with rfl | rfl | rfl | rfl | rfl | rfl | rfl | rfl | rfl | rfl | rfl
  all_goals
   go_enter Tryz.func223,Tryz.ntmps223
   go_wp2_with fail
   go_ret
   exact⟨rfl,rfl⟩
 ·have b1:(op==1)=false:=by simp;omega
  have b2:(op==2)=false:=by simp;omega
  have b3:(op==3)=false:=by simp;omega
  have b4:(op==4)=false:=by simp;omega
  have b5:(op==5)=false:=by simp;omega
  have b6:(op==6)=false:=by simp;omega
  have b7:(op==7)=false:=by simp;omega
  have b8:(op==8)=false:=by simp;omega
  have b9:(op==9)=false:=by simp;omega
  have b10:(op==10)=false:=by simp;omega
  have b11:(op==11)=false:=by simp;omega
  have ha:arityE op = -1:=by
   unfold arityE
   rw [if_neg (by omega),if_neg (by omega),if_neg (by omega)]
  rw [ha]
  clear h ha
  go_enter Tryz.func223,Tryz.ntmps223
  go_wp2_with fail
  go_ret
  exact⟨rfl,rfl⟩
set_option maxHeartbeats 1000000 in
theorem legal_any (i o:Int) (w:World):Calls Tryz.prog 178 #[.int .i64 i,.int .i64 o] w fun e w'=>e = .returned (.bool (decide (0≤o)&&decide (o<i)))∧w=w':=by
 by_cases h0:0≤o
 ·have d0:decide (0≤o)=true:=decide_eq_true h0
  rw [d0,Bool.true_and]
  go_enter Tryz.func178,Tryz.ntmps178
  go_wp2_with fail
  go_ret
  exact⟨rfl,rfl⟩
 ·have d0:decide (0≤o)=false:=decide_eq_false h0
  rw [d0,Bool.false_and]
  clear h0
  go_enter Tryz.func178,Tryz.ntmps178
  go_wp2_with fail
  go_ret
  exact⟨rfl,rfl⟩
set_option maxHeartbeats 1000000 in
theorem boolean_any (b:Bool) (w:World):Calls Tryz.prog 225 #[.bool b] w fun e w'=>e = .returned (valV (boolV b))∧Ext w w':=by
 cases b
 ·go_enter Tryz.func225,Tryz.ntmps225
  go_wp2_with fail
  exact bodyPost_ret (v:=valV (boolV false)) (by simp [results,Tryz.results225,go_sem,valV,boolV];rfl) rfl ⟨rfl,(Ext.refl w).alloc _⟩
 ·go_enter Tryz.func225,Tryz.ntmps225
  go_wp2_with fail
  exact bodyPost_ret (v:=valV (boolV true)) (by simp [results,Tryz.results225,go_sem,valV,boolV];rfl) rfl ⟨rfl,(Ext.refl w).alloc _⟩
set_option maxHeartbeats 1000000 in
theorem isTrue_any (v:Val) (w:World):Calls Tryz.prog 226 #[valV v] w fun e w'=>e = .returned (.bool (trueV v))∧Ext w w':=by
 obtain⟨k,n,s⟩:=v
 unfold trueV valV
 dsimp only
 by_cases h:k=3
 ·subst h
  have d:decide ((3:Int)=3)=true:=rfl
  have e:(n==1)=decide (n=1):=by rw [Bool.eq_iff_iff];simp
  have HE:=Lib.hid e
  rw [d,Bool.true_and]
  clear d e
  go_enter Tryz.func226,Tryz.ntmps226
  go_wp2_with fail
  go_ret
  exact⟨ret_bool HE.out,(Ext.refl w).alloc _⟩
 ·have b:(k==3)=false:=by simp [h]
  have d:decide (k=3)=false:=decide_eq_false h
  rw [d,Bool.false_and]
  clear d h
  go_enter Tryz.func226,Tryz.ntmps226
  go_wp2_with fail
  go_ret
  exact⟨rfl,(Ext.refl w).alloc _⟩
theorem mag_neg {a:Int} (h:a<0) (h0 : -9223372036854775808≤a):IntKind.u64.wrap (-IntKind.u64.wrap a)=(a.natAbs:Int):=by
 rw [IntKind.wrap_u64,IntKind.wrap_u64];omega
theorem mag_pos {a:Int} (h:0≤a) (h1:a≤9223372036854775807):IntKind.u64.wrap a=(a.natAbs:Int):=by
 rw [IntKind.wrap_u64];omega
set_option maxHeartbeats 1000000 in
theorem magnitude_any (a:Int) (ha:fit64 a) (w:World):Calls Tryz.prog 303 #[.int .i64 a] w fun e w'=>e = .returned (.int .u64 (a.natAbs:Int))∧w=w':=by
 unfold fit64 at ha
 by_cases h:a<0
 ·have HM:=Lib.hid (mag_neg h ha.1)
  have d:decide (a<0)=true:=decide_eq_true h
  clear h ha
  go_enter Tryz.func303,Tryz.ntmps303
  go_wp2_with fail
  go_ret
  exact⟨ret_int HM.out,rfl⟩
 ·have HM:=Lib.hid (mag_pos (by omega) ha.2)
  have d:decide (a<0)=false:=decide_eq_false h
  clear h ha
  go_enter Tryz.func303,Tryz.ntmps303
  go_wp2_with fail
  go_ret
  exact⟨ret_int HM.out,rfl⟩
theorem mul_same {a b:Int} (h:decide (a<0)=decide (b<0)):a*b=((a.natAbs*b.natAbs:Nat):Int):=by
 rw [Int.natCast_mul]
 by_cases h1:a<0
 ·have h2:b<0:=by simpa [h1] using h
  rw [show (a.natAbs:Int) = -a by omega,show (b.natAbs:Int) = -b by omega,Int.neg_mul_neg]
 ·have h2 : ¬b<0:=by simpa [h1] using h
  rw [show (a.natAbs:Int)=a by omega,show (b.natAbs:Int)=b by omega]
theorem mul_other {a b:Int} (h:decide (a<0)≠decide (b<0)):a*b = -((a.natAbs*b.natAbs:Nat):Int):=by
 rw [Int.natCast_mul]
 by_cases h1:a<0
 ·have h2 : ¬b<0:=by simpa [h1] using h
  rw [show (a.natAbs:Int) = -a by omega,show (b.natAbs:Int)=b by omega,Int.neg_mul,Int.neg_neg]
 ·have h2:b<0:=by simpa [h1] using h
  rw [show (a.natAbs:Int)=a by omega,show (b.natAbs:Int) = -b by omega,Int.mul_neg,Int.neg_neg]
def MulRes (z:Int) (e:Ending):Prop:= ∃n,e = .returned (.tuple #[.int .i64 n,.bool (decide (fit64 z))])∧(fit64 z→n=z)
theorem mulRes_mk {z n:Int} {b:Bool} {e:Ending} (he:e = .returned (.tuple #[.int .i64 n,.bool b])) (hb:b=true↔fit64 z) (hn:fit64 z→n=z):MulRes z e:=by
 refine⟨n,?_,hn⟩
 rw [he]
 have:b=decide (fit64 z):=by rw [Bool.eq_iff_iff,hb,decide_eq_true_eq]
 rw [this]
end Go.Proofs.YtombmdaohcjokaaGreatDoor
namespace Go.Proofs.YtombmdaohcjokaaGreatDoor
open Go.RowKit
theorem mul_fit_same {a b:Int} {hi lo:Nat} (h:decide (a<0)=decide (b<0)) (hp:a.natAbs*b.natAbs=hi*18446744073709551616+lo) (hl:lo<18446744073709551616) :
  (fit64 (a*b)↔hi=0∧lo≤9223372036854775807)∧(fit64 (a*b)→IntKind.i64.wrap (lo:Int)=a*b):=by
 rw [mul_same h,hp]
 unfold fit64
 refine⟨by omega,fun g=> ?_⟩
 rw [IntKind.wrap_i64]
 omega
theorem mul_fit_other {a b:Int} {hi lo:Nat} (h:decide (a<0)≠decide (b<0)) (hp:a.natAbs*b.natAbs=hi*18446744073709551616+lo) (hl:lo<18446744073709551616) :
  (fit64 (a*b)↔hi=0∧lo≤9223372036854775808)∧(fit64 (a*b)→IntKind.i64.wrap (-IntKind.i64.wrap (lo:Int))=a*b):=by
 rw [mul_other h,hp]
 unfold fit64
 refine⟨by omega,fun g=> ?_⟩
 rw [IntKind.wrap_i64,IntKind.wrap_i64]
 omega
theorem fin_same {a b:Int} {hi lo:Nat} {t:Bool} (h:decide (a<0)=decide (b<0)) (hp:a.natAbs*b.natAbs=hi*18446744073709551616+lo) (hl:lo<18446744073709551616) (ht:t=true↔hi=0∧lo≤9223372036854775807) :
 MulRes (a*b) (.returned (.tuple #[.int .i64 (wrap64 (lo:Int)),.bool t])):=mulRes_mk rfl (ht.trans (mul_fit_same h hp hl).1.symm) fun g=>by have h2:=(mul_fit_same h hp hl).2 g;rw [IntKind.wrap_i64]at h2;unfold wrap64;exact h2
theorem fin_other {a b:Int} {hi lo:Nat} {t:Bool} (h:decide (a<0)≠decide (b<0)) (hp:a.natAbs*b.natAbs=hi*18446744073709551616+lo) (hl:lo<18446744073709551616) (ht:t=true↔hi=0∧lo≤9223372036854775808) :
 MulRes (a*b) (.returned (.tuple #[.int .i64 (wrap64 (-wrap64 (lo:Int))),.bool t])):=mulRes_mk rfl (ht.trans (mul_fit_other h hp hl).1.symm) fun g=>by have h2:=(mul_fit_other h hp hl).2 g;rw [IntKind.wrap_i64,IntKind.wrap_i64]at h2;unfold wrap64;exact h2
theorem iff_yes {p:Prop} (h:p):(true=true)↔p:=⟨fun _=>h,fun _=>rfl⟩
theorem iff_no {p:Prop} (h : ¬p):(false=true)↔p:=⟨fun g=>(by cases g),fun g=>absurd g h⟩
set_option maxRecDepth 100000 in
set_option maxHeartbeats 4000000 in
theorem multiply_any (a b:Int) (ha:fit64 a) (hb:fit64 b) (w:World):Calls Tryz.prog 262 #[.int .i64 a,.int .i64 b] w fun e w'=>MulRes (a*b) e∧w=w':=by
 have HA:=Lib.hid ha
 have HB:=Lib.hid hb
 have hna:a.natAbs<18446744073709551616:=by unfold fit64 at ha;omega
 have hnb:b.natAbs<18446744073709551616:=by unfold fit64 at hb;omega
 have HN:=Lib.hid (And.intro hna hnb)
 obtain⟨hi,hhi⟩ : ∃x,a.natAbs*b.natAbs / 18446744073709551616=x:=⟨_,rfl⟩
 obtain⟨lo,hlo⟩ : ∃x,a.natAbs*b.natAbs % 18446744073709551616=x:=⟨_,rfl⟩
 have hp:a.natAbs*b.natAbs=hi*18446744073709551616+lo:=by omega
 have hl:lo<18446744073709551616:=by omega
 have HHI:=Lib.hid (And.intro hhi hlo)
 have HP:=Lib.hid hp
 have HL:=Lib.hid hl
 obtain⟨P,hP⟩ : ∃P,P=fit64 (a*b):=⟨_,rfl⟩
 clear ha hb hna hnb hhi hlo hp hP
 by_cases h1:a<0
 all_goals by_cases h2:b<0
 all_goals by_cases h3:hi=0
 all_goals by_cases h4:lo≤9223372036854775807
 all_goals by_cases h5:lo≤9223372036854775808
 all_goals
  first |(exfalso;omega) | skip
 all_goals
  have d1:decide (a<0)=decide (a<0):=rfl
  first
   |(replace d1:decide (a<0)=true:=decide_eq_true h1)
   |(replace d1:decide (a<0)=false:=decide_eq_false h1)
  have d2:decide (b<0)=decide (b<0):=rfl
  first
   |(replace d2:decide (b<0)=true:=decide_eq_true h2)
   |(replace d2:decide (b<0)=false:=decide_eq_false h2)
  have d3:((hi:Int)==0)=((hi:Int)==0):=rfl
  first
   |(replace d3:((hi:Int)==0)=true:=by simp;omega)
   |(replace d3:((hi:Int)==0)=false:=by simp;omega)
  have d4:decide ((lo:Int)≤9223372036854775807)=decide ((lo:Int)≤9223372036854775807):=rfl
  first
   |(replace d4:decide ((lo:Int)≤9223372036854775807)=true:=by simp;omega)
   |(replace d4:decide ((lo:Int)≤9223372036854775807)=false:=by simp;omega)
  have d5:decide ((lo:Int)≤9223372036854775808)=decide ((lo:Int)≤9223372036854775808):=rfl
  first
   |(replace d5:decide ((lo:Int)≤9223372036854775808)=true:=by simp;omega)
   |(replace d5:decide ((lo:Int)≤9223372036854775808)=false:=by simp;omega)
  have H:=Lib.hid (And.intro h1 (And.intro h2 (And.intro h3 (And.intro h4 h5))))
  clear h1 h2 h3 h4 h5
  go_enter Tryz.func262,Tryz.ntmps262
  go_wp2_with fail
  refine(magnitude_any a HA.out _).mono ?_
  rintro e w1 ⟨rfl,rfl⟩
  go_wp2_with fail
  refine(magnitude_any b HB.out _).mono ?_
  rintro e w1 ⟨rfl,rfl⟩
  go_wp2_with fail
  refine(Tryz.bits_Mul64 a.natAbs b.natAbs HN.out.1 HN.out.2 _).mono ?_
  rintro e w1 ⟨rfl,rfl⟩
  rw [HHI.out.1,HHI.out.2]
  go_wp2_with fail
  go_ret2
  obtain⟨h1,h2,h3,h4,h5⟩:=H.out
  first
   |exact⟨fin_same (d1.trans d2.symm) HP.out HL.out (iff_yes ⟨h3,h4⟩),rfl⟩
   |exact⟨fin_same (d1.trans d2.symm) HP.out HL.out (iff_no (fun g=>h3 g.1)),rfl⟩
   |exact⟨fin_same (d1.trans d2.symm) HP.out HL.out (iff_no (fun g=>h4 g.2)),rfl⟩
   |exact⟨fin_other (by rw [d1,d2];decide) HP.out HL.out (iff_yes ⟨h3,h5⟩),rfl⟩
   |exact⟨fin_other (by rw [d1,d2];decide) HP.out HL.out (iff_no (fun g=>h3 g.1)),rfl⟩
   |exact⟨fin_other (by rw [d1,d2];decide) HP.out HL.out (iff_no (fun g=>h5 g.2)),rfl⟩
end Go.Proofs.YtombmdaohcjokaaGreatDoor
namespace Go.Proofs.YtombmdaohcjokaaGreatDoor
open Go.RowKit
theorem arith_yes {op:Int} {a b:Val} (h1:a.kind=1) (h2:b.kind=1) (h:fit64 (arithI op a.n b.n)):arithV op a b=intVal (arithI op a.n b.n):=if_pos ⟨h1,h2,h⟩
theorem arith_no {op:Int} {a b:Val} (h : ¬(a.kind=1∧b.kind=1∧fit64 (arithI op a.n b.n))):arithV op a b=nV:=if_neg h
set_option maxRecDepth 100000 in
set_option maxHeartbeats 4000000 in
theorem arithmetic_add (a b:Val) (h1:a.kind=1) (h2:b.kind=1) (ha:okVal a) (hb:okVal b) (w:World):Calls Tryz.prog 224 #[.int .i64 3,valV a,valV b] w fun e w'=>e = .returned (valV (arithV 3 a b))∧Ext w w':=by
 have HY:=Lib.hid (arith_yes (op:=3) h1 h2)
 have HN:=Lib.hid (arith_no (op:=3) (a:=a) (b:=b))
 obtain⟨ak,an,sa⟩:=a
 obtain⟨bk,bn,sb⟩:=b
 dsimp only at h1 h2
 subst h1 h2
 obtain⟨z,hz⟩ : ∃z,arithV 3 ⟨1,an,sa⟩ ⟨1,bn,sb⟩=z:=⟨_,rfl⟩
 rw [hz]at HY HN ⊢
 have hra:=ha.2.1
 have hrb:=hb.2.1
 dsimp only at hra hrb
 have hsum:arithI 3 an bn=an+bn:=rfl
 unfold valV
 dsimp only
 clear hz ha hb
 by_cases hf:fit64 (an+bn)
 ·have h3:=HY.out (by rw [hsum];exact hf)
  rw [hsum]at h3
  subst h3
  unfold fit64 at hf
  obtain⟨f1,f2⟩:=hf
  clear HY HN hsum
  rcases Int.lt_trichotomy bn 0 with h | h | h
  ·have d1:decide (0<bn)=false:=by simp;omega
   have d2:decide (an<an+bn)=false:=by simp;omega
   clear hra hrb h
   go_enter Tryz.func224,Tryz.ntmps224
   go_wp2_with fail
   exact bodyPost_ret (v:=valV (intVal (an+bn))) (by simp [results,Tryz.results224,go_sem,valV,intVal];rfl) rfl ⟨rfl,(((Ext.refl w).alloc _).alloc _).alloc _⟩
  ·subst h
   clear hra hrb
   go_enter Tryz.func224,Tryz.ntmps224
   go_wp2_with fail
   exact bodyPost_ret (v:=valV (intVal (an+0))) (by simp [results,Tryz.results224,go_sem,valV,intVal];rfl) rfl ⟨rfl,(((Ext.refl w).alloc _).alloc _).alloc _⟩
  ·have d1:decide (0<bn)=true:=by simp;omega
   have d2:decide (an<an+bn)=true:=by simp;omega
   clear hra hrb h
   go_enter Tryz.func224,Tryz.ntmps224
   go_wp2_with fail
   exact bodyPost_ret (v:=valV (intVal (an+bn))) (by simp [results,Tryz.results224,go_sem,valV,intVal];rfl) rfl ⟨rfl,(((Ext.refl w).alloc _).alloc _).alloc _⟩
 ·have h3:=HN.out (by rintro⟨_,_,g⟩;rw [hsum]at g;exact hf g)
  subst h3
  unfold fit64 at hf
  obtain⟨n,hn⟩ : ∃n,IntKind.i64.wrap (an+bn)=n:=⟨_,rfl⟩
  have hn2:=hn
  rw [IntKind.wrap_i64]at hn2
  clear HY HN hsum
  rcases(show 0<bn∨bn≤0 by omega)with h | h
  ·have d1:decide (0<bn)=true:=by simp;omega
   have d2:decide (an<n)=false:=by simp;omega
   have d3:(bn==0)=false:=by simp;omega
   clear hra hrb h hf hn2
   go_enter Tryz.func224,Tryz.ntmps224
   go_wp2_with fail
   exact bodyPost_ret (v:=valV nV) (by simp [results,Tryz.results224,go_sem,valV,nV];rfl) rfl ⟨rfl,(((Ext.refl w).alloc _).alloc _).alloc _⟩
  ·have d1:decide (0<bn)=false:=by simp;omega
   have d2:decide (an<n)=true:=by simp;omega
   have d3:(bn==0)=false:=by simp;omega
   clear hra hrb h hf hn2
   go_enter Tryz.func224,Tryz.ntmps224
   go_wp2_with fail
   exact bodyPost_ret (v:=valV nV) (by simp [results,Tryz.results224,go_sem,valV,nV];rfl) rfl ⟨rfl,(((Ext.refl w).alloc _).alloc _).alloc _⟩
set_option maxRecDepth 100000 in
set_option maxHeartbeats 4000000 in
theorem arithmetic_sub (a b:Val) (h1:a.kind=1) (h2:b.kind=1) (ha:okVal a) (hb:okVal b) (w:World):Calls Tryz.prog 224 #[.int .i64 4,valV a,valV b] w fun e w'=>e = .returned (valV (arithV 4 a b))∧Ext w w':=by
 have HY:=Lib.hid (arith_yes (op:=4) h1 h2)
 have HN:=Lib.hid (arith_no (op:=4) (a:=a) (b:=b))
 obtain⟨ak,an,sa⟩:=a
 obtain⟨bk,bn,sb⟩:=b
 dsimp only at h1 h2
 subst h1 h2
 obtain⟨z,hz⟩ : ∃z,arithV 4 ⟨1,an,sa⟩ ⟨1,bn,sb⟩=z:=⟨_,rfl⟩
 rw [hz]at HY HN ⊢
 have hra:=ha.2.1
 have hrb:=hb.2.1
 dsimp only at hra hrb
 have hsum:arithI 4 an bn=an - bn:=rfl
 unfold valV
 dsimp only
 clear hz ha hb
 by_cases hf:fit64 (an - bn)
 ·have h3:=HY.out (by rw [hsum];exact hf)
  rw [hsum]at h3
  subst h3
  unfold fit64 at hf
  obtain⟨f1,f2⟩:=hf
  clear HY HN hsum
  rcases Int.lt_trichotomy bn 0 with h | h | h
  ·have d1:decide (0<bn)=false:=by simp;omega
   have d2:decide (an - bn<an)=false:=by simp;omega
   clear hra hrb h
   go_enter Tryz.func224,Tryz.ntmps224
   go_wp2_with fail
   exact bodyPost_ret (v:=valV (intVal (an - bn))) (by simp [results,Tryz.results224,go_sem,valV,intVal];rfl) rfl ⟨rfl,(((Ext.refl w).alloc _).alloc _).alloc _⟩
  ·subst h
   clear hra hrb
   go_enter Tryz.func224,Tryz.ntmps224
   go_wp2_with fail
   exact bodyPost_ret (v:=valV (intVal (an - 0))) (by simp [results,Tryz.results224,go_sem,valV,intVal];rfl) rfl ⟨rfl,(((Ext.refl w).alloc _).alloc _).alloc _⟩
  ·have d1:decide (0<bn)=true:=by simp;omega
   have d2:decide (an - bn<an)=true:=by simp;omega
   clear hra hrb h
   go_enter Tryz.func224,Tryz.ntmps224
   go_wp2_with fail
   exact bodyPost_ret (v:=valV (intVal (an - bn))) (by simp [results,Tryz.results224,go_sem,valV,intVal];rfl) rfl ⟨rfl,(((Ext.refl w).alloc _).alloc _).alloc _⟩
 ·have h3:=HN.out (by rintro⟨_,_,g⟩;rw [hsum]at g;exact hf g)
  subst h3
  unfold fit64 at hf
  obtain⟨n,hn⟩ : ∃n,IntKind.i64.wrap (an - bn)=n:=⟨_,rfl⟩
  have hn2:=hn
  rw [IntKind.wrap_i64]at hn2
  clear HY HN hsum
  rcases(show 0<bn∨bn≤0 by omega)with h | h
  ·have d1:decide (0<bn)=true:=by simp;omega
   have d2:decide (n<an)=false:=by simp;omega
   have d3:(bn==0)=false:=by simp;omega
   clear hra hrb h hf hn2
   go_enter Tryz.func224,Tryz.ntmps224
   go_wp2_with fail
   exact bodyPost_ret (v:=valV nV) (by simp [results,Tryz.results224,go_sem,valV,nV];rfl) rfl ⟨rfl,(((Ext.refl w).alloc _).alloc _).alloc _⟩
  ·have d1:decide (0<bn)=false:=by simp;omega
   have d2:decide (n<an)=true:=by simp;omega
   have d3:(bn==0)=false:=by simp;omega
   clear hra hrb h hf hn2
   go_enter Tryz.func224,Tryz.ntmps224
   go_wp2_with fail
   exact bodyPost_ret (v:=valV nV) (by simp [results,Tryz.results224,go_sem,valV,nV];rfl) rfl ⟨rfl,(((Ext.refl w).alloc _).alloc _).alloc _⟩
set_option maxRecDepth 100000 in
set_option maxHeartbeats 4000000 in
theorem arithmetic_mul (a b:Val) (h1:a.kind=1) (h2:b.kind=1) (ha:okVal a) (hb:okVal b) (w:World):Calls Tryz.prog 224 #[.int .i64 5,valV a,valV b] w fun e w'=>e = .returned (valV (arithV 5 a b))∧Ext w w':=by
 have HY:=Lib.hid (arith_yes (op:=5) h1 h2)
 have HN:=Lib.hid (arith_no (op:=5) (a:=a) (b:=b))
 have HA:=Lib.hid (show fit64 a.n from ha.2.1)
 have HB:=Lib.hid (show fit64 b.n from hb.2.1)
 obtain⟨ak,an,sa⟩:=a
 obtain⟨bk,bn,sb⟩:=b
 dsimp only at h1 h2 HA HB
 subst h1 h2
 obtain⟨z,hz⟩ : ∃z,arithV 5 ⟨1,an,sa⟩ ⟨1,bn,sb⟩=z:=⟨_,rfl⟩
 rw [hz]at HY HN ⊢
 have hsum:arithI 5 an bn=an*bn:=rfl
 have HS:=Lib.hid hsum
 unfold valV
 dsimp only
 clear hz ha hb hsum
 go_enter Tryz.func224,Tryz.ntmps224
 go_wp2_with fail
 refine(multiply_any an bn HA.out HB.out _).mono ?_
 rintro e w1 ⟨⟨n,rfl,hn⟩,rfl⟩
 by_cases hf:fit64 (an*bn)
 ·have h3:=HY.out (by rw [HS.out];exact hf)
  have hn2:=hn hf
  have hd:decide (fit64 (an*bn))=true:=decide_eq_true hf
  rw [hd]
  rw [HS.out,←hn2]at h3
  subst h3
  clear HY HN HS hn hf hn2 hd
  go_wp2_with fail
  exact bodyPost_ret (v:=valV (intVal n)) (by simp [results,Tryz.results224,go_sem,valV,intVal];rfl) rfl ⟨rfl,(((Ext.refl w).alloc _).alloc _).alloc _⟩
 ·have h3:=HN.out (by rintro⟨_,_,g⟩;rw [HS.out]at g;exact hf g)
  have hd:decide (fit64 (an*bn))=false:=decide_eq_false hf
  rw [hd]
  subst h3
  clear HY HN HS hn hf hd
  go_wp2_with fail
  exact bodyPost_ret (v:=valV nV) (by simp [results,Tryz.results224,go_sem,valV,nV];rfl) rfl ⟨rfl,(((Ext.refl w).alloc _).alloc _).alloc _⟩
set_option maxRecDepth 100000 in
set_option maxHeartbeats 4000000 in
theorem arithmetic_any (op:Int) (hop:op=3∨op=4∨op=5) (a b:Val) (ha:okVal a) (hb:okVal b) (w:World):Calls Tryz.prog 224 #[.int .i64 op,valV a,valV b] w fun e w'=>e = .returned (valV (arithV op a b))∧Ext w w':=by
 by_cases h1:a.kind=1
 ·by_cases h2:b.kind=1
  ·rcases hop with rfl | rfl | rfl
   ·exact arithmetic_add a b h1 h2 ha hb w
   ·exact arithmetic_sub a b h1 h2 ha hb w
   ·exact arithmetic_mul a b h1 h2 ha hb w
  ·have h3:arithV op a b=nV:=arith_no fun g=>h2 g.2.1
   rw [h3]
   obtain⟨ak,an,sa⟩:=a
   obtain⟨bk,bn,sb⟩:=b
   dsimp only at h1 h2
   subst h1
   have d:(bk != 1)=true:=by simp [h2]
   unfold valV
   dsimp only
   clear h2 h3 ha hb hop
   go_enter Tryz.func224,Tryz.ntmps224
   go_wp2_with fail
   exact bodyPost_ret (v:=valV nV) (by simp [results,Tryz.results224,go_sem,valV,nV];rfl) rfl ⟨rfl,(((Ext.refl w).alloc _).alloc _).alloc _⟩
 ·have h3:arithV op a b=nV:=arith_no fun g=>h1 g.1
  rw [h3]
  obtain⟨ak,an,sa⟩:=a
  obtain⟨bk,bn,sb⟩:=b
  dsimp only at h1
  have d:(ak != 1)=true:=by simp [h1]
  unfold valV
  dsimp only
  clear h1 h3 ha hb hop
  go_enter Tryz.func224,Tryz.ntmps224
  go_wp2_with fail
  exact bodyPost_ret (v:=valV nV) (by simp [results,Tryz.results224,go_sem,valV,nV];rfl) rfl ⟨rfl,(((Ext.refl w).alloc _).alloc _).alloc _⟩
end Go.Proofs.YtombmdaohcjokaaGreatDoor
