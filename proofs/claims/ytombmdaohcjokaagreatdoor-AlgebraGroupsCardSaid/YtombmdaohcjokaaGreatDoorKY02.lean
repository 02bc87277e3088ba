/- joined texts of a proof: GrpsW, GenO -/
import Derived.Test.YtombmdaohcjokaaGreatDoorKX01
import Derived.Test.YtombmdaohcjokaaGreatDoorKX02
import Derived.Test.YtombmdaohcjokaaGreatDoorKX03
import Derived.Test.YtombmdaohcjokaaGreatDoorKX04
import Derived.Test.YtombmdaohcjokaaGreatDoorKX05
import Derived.Test.YtombmdaohcjokaaGreatDoorKX06
import Derived.Test.YtombmdaohcjokaaGreatDoorKX07
import Derived.Test.YtombmdaohcjokaaGreatDoorKX08
import Derived.Test.YtombmdaohcjokaaGreatDoorKX09
import Derived.Test.YtombmdaohcjokaaGreatDoorKX10
import Derived.Test.YtombmdaohcjokaaGreatDoorKX11
import Derived.Test.YtombmdaohcjokaaGreatDoorKX12
import Derived.Test.YtombmdaohcjokaaGreatDoorKX13
import Derived.Test.YtombmdaohcjokaaGreatDoorKX14
import Derived.Test.YtombmdaohcjokaaGreatDoorKX15
import Derived.Test.YtombmdaohcjokaaGreatDoorKX16
import Derived.Test.YtombmdaohcjokaaGreatDoorKX17
import Derived.Test.YtombmdaohcjokaaGreatDoorKX18
import Derived.Test.YtombmdaohcjokaaGreatDoorKY01
namespace Go.Proofs.YtombmdaohcjokaaGreatDoor
open Go.RowKit
theorem keepAw4 {w1 w w':World} {a0 a1 a2 a3:Addr} {u0 u1 u2 u3:Value} (h:Ext w1 w∧w.cell? a0=some u0∧w.cell? a1=some u1∧w.cell? a2=some u2∧w.cell? a3=some u3) (x:Ext w w') :
 Ext w1 w'∧w'.cell? a0=some u0∧w'.cell? a1=some u1∧w'.cell? a2=some u2∧w'.cell? a3=some u3:=⟨h.1.trans x,x.at h.2.1,x.at h.2.2.1,x.at h.2.2.2.1,x.at h.2.2.2.2⟩
theorem perm_sum {l l':List Int} (h:l.Perm l'):l.sum=l'.sum:=by
 induction h with
 |nil=>rfl
 |cons x _ ih=>rw [List.sum_cons,List.sum_cons,ih]
 |swap x y l=>simp only [List.sum_cons];omega
 |trans _ _ h1 h2=>exact h1.trans h2
theorem grp_law (c:Int) (x ra rb:List Row) (hx:smallR x) (ha:ra=sortBy cmpRow (groupP (grpE c) [0] [⟨1,0⟩] x)) (hb:rb=sortBy cmpRow (groupP (grpE c) [1] [⟨1,0⟩] (groupP (grpE c) [0] [⟨1,0⟩] x))) :
  (∀r∈ra,∃v,∃n:Nat,r.vals = [v,intVal n]∧n≤12)∧(ra.map cntOf).sum=(x.length:Int)∧ra.length=rb.length∧ra.length≤12∧ ∀r∈rb,∃v,r.vals = [v,intVal 1]:=by
 obtain⟨h1,h2,h3⟩:=grp_first c x
 obtain⟨h4,h5⟩:=grp_second c _ h3
 have pa:=sortBy_perm cmpRow (groupP (grpE c) [0] [⟨1,0⟩] x)
 have pb:=sortBy_perm cmpRow (groupP (grpE c) [1] [⟨1,0⟩] (groupP (grpE c) [0] [⟨1,0⟩] x))
 rw [←ha]at pa
 rw [←hb]at pb
 refine⟨fun r hr=> ?_,?_,?_,?_,fun r hr=> ?_⟩
 ·obtain⟨v,n,h6,h7,_⟩:=h1 r (pa.mem_iff.1 hr)
  exact⟨v,n,h6,Nat.le_trans h7 hx.1⟩
 ·rw [perm_sum (pa.map cntOf),h2]
 ·rw [pa.length_eq,pb.length_eq,h4]
 ·rw [pa.length_eq]
  exact Nat.le_trans (groupP_len _ _ _ _) hx.1
 ·obtain⟨v,h6,_⟩:=h5 r (pb.mem_iff.1 hr)
  exact⟨v,h6⟩
theorem dis_law (x rd:List Row) (hx:smallR x) (hd:rd=sortBy cmpRow (distP x)):rd.length≤12∧ ∀r∈rd,mult r.vals rd=1∧0<mult r.vals x:=by
 have pd:=sortBy_perm cmpRow (distP x)
 rw [←hd]at pd
 refine⟨by rw [pd.length_eq];exact Nat.le_trans (distP_len x) hx.1,fun r hr=> ?_⟩
 rw [mult_perm _ pd]
 exact dis_mult x r (pd.mem_iff.1 hr)
theorem lit_q4 (w:World) (k:Nat) (hk:k<2):(SliceOf Rep.node (((((((w.alloc (.cells #[.int .i64 0] 3)).alloc (.cells #[.int .i64 1,.int .i64 0] 74)).alloc (.cells #[.int .i64 1] 3)).alloc (.cells #[.int .i64 1,.int .i64 0] 74)).alloc (.cells #[.int .i64 1,.int .i64 0,.int .i64 0,.int .i64 0,.string ⟨#[114]⟩,.slice none 0 0,.slice none 0 0,.int .i64 10,.int .i64 0,.int .i64 0,.int .i64 0,.string ⟨#[]⟩,.slice (some ⟨w.heap.size,0,none⟩) 1 1,.slice (some ⟨w.heap.size+1,0,none⟩) 1 1,.int .i64 10,.int .i64 1,.int .i64 0,.int .i64 0,.string ⟨#[]⟩,.slice (some ⟨w.heap.size+1+1,0,none⟩) 1 1,.slice (some ⟨w.heap.size+1+1+1,0,none⟩) 1 1] 64)).alloc (.cells #[.int .i64 2,.int .i64 0,.int .i64 0,.int .i64 (k:Int),.int .i64 0,.int .i64 0,.string ⟨#[]⟩,.int .i64 2,.int .i64 0,.int .i64 0,.int .i64 0,.int .i64 0,.int .i64 0,.string ⟨#[]⟩] 66)).alloc (.cells #[.slice (some ⟨w.heap.size+1+1+1+1,0,none⟩) 3 3,.slice (some ⟨w.heap.size+1+1+1+1+1,0,none⟩) 2 2] 25)).cell? (.slice (some ⟨w.heap.size+1+1+1+1,0,none⟩) 3 3) (grpTwo k).nodes∧SliceOf Rep.expr (((((((w.alloc (.cells #[.int .i64 0] 3)).alloc (.cells #[.int .i64 1,.int .i64 0] 74)).alloc (.cells #[.int .i64 1] 3)).alloc (.cells #[.int .i64 1,.int .i64 0] 74)).alloc (.cells #[.int .i64 1,.int .i64 0,.int .i64 0,.int .i64 0,.string ⟨#[114]⟩,.slice none 0 0,.slice none 0 0,.int .i64 10,.int .i64 0,.int .i64 0,.int .i64 0,.string ⟨#[]⟩,.slice (some ⟨w.heap.size,0,none⟩) 1 1,.slice (some ⟨w.heap.size+1,0,none⟩) 1 1,.int .i64 10,.int .i64 1,.int .i64 0,.int .i64 0,.string ⟨#[]⟩,.slice (some ⟨w.heap.size+1+1,0,none⟩) 1 1,.slice (some ⟨w.heap.size+1+1+1,0,none⟩) 1 1] 64)).alloc (.cells #[.int .i64 2,.int .i64 0,.int .i64 0,.int .i64 (k:Int),.int .i64 0,.int .i64 0,.string ⟨#[]⟩,.int .i64 2,.int .i64 0,.int .i64 0,.int .i64 0,.int .i64 0,.int .i64 0,.string ⟨#[]⟩] 66)).alloc (.cells #[.slice (some ⟨w.heap.size+1+1+1+1,0,none⟩) 3 3,.slice (some ⟨w.heap.size+1+1+1+1+1,0,none⟩) 2 2] 25)).cell? (.slice (some ⟨w.heap.size+1+1+1+1+1,0,none⟩) 2 2) (grpE k))∧((((((((w.alloc (.cells #[.int .i64 0] 3)).alloc (.cells #[.int .i64 1,.int .i64 0] 74)).alloc (.cells #[.int .i64 1] 3)).alloc (.cells #[.int .i64 1,.int .i64 0] 74)).alloc (.cells #[.int .i64 1,.int .i64 0,.int .i64 0,.int .i64 0,.string ⟨#[114]⟩,.slice none 0 0,.slice none 0 0,.int .i64 10,.int .i64 0,.int .i64 0,.int .i64 0,.string ⟨#[]⟩,.slice (some ⟨w.heap.size,0,none⟩) 1 1,.slice (some ⟨w.heap.size+1,0,none⟩) 1 1,.int .i64 10,.int .i64 1,.int .i64 0,.int .i64 0,.string ⟨#[]⟩,.slice (some ⟨w.heap.size+1+1,0,none⟩) 1 1,.slice (some ⟨w.heap.size+1+1+1,0,none⟩) 1 1] 64)).alloc (.cells #[.int .i64 2,.int .i64 0,.int .i64 0,.int .i64 (k:Int),.int .i64 0,.int .i64 0,.string ⟨#[]⟩,.int .i64 2,.int .i64 0,.int .i64 0,.int .i64 0,.int .i64 0,.int .i64 0,.string ⟨#[]⟩] 66)).alloc (.cells #[.slice (some ⟨w.heap.size+1+1+1+1,0,none⟩) 3 3,.slice (some ⟨w.heap.size+1+1+1+1+1,0,none⟩) 2 2] 25)).cell? ⟨w.heap.size+1+1+1+1+1+1,0,none⟩=some (.slice (some ⟨w.heap.size+1+1+1+1,0,none⟩) 3 3)∧(((((((w.alloc (.cells #[.int .i64 0] 3)).alloc (.cells #[.int .i64 1,.int .i64 0] 74)).alloc (.cells #[.int .i64 1] 3)).alloc (.cells #[.int .i64 1,.int .i64 0] 74)).alloc (.cells #[.int .i64 1,.int .i64 0,.int .i64 0,.int .i64 0,.string ⟨#[114]⟩,.slice none 0 0,.slice none 0 0,.int .i64 10,.int .i64 0,.int .i64 0,.int .i64 0,.string ⟨#[]⟩,.slice (some ⟨w.heap.size,0,none⟩) 1 1,.slice (some ⟨w.heap.size+1,0,none⟩) 1 1,.int .i64 10,.int .i64 1,.int .i64 0,.int .i64 0,.string ⟨#[]⟩,.slice (some ⟨w.heap.size+1+1,0,none⟩) 1 1,.slice (some ⟨w.heap.size+1+1+1,0,none⟩) 1 1] 64)).alloc (.cells #[.int .i64 2,.int .i64 0,.int .i64 0,.int .i64 (k:Int),.int .i64 0,.int .i64 0,.string ⟨#[]⟩,.int .i64 2,.int .i64 0,.int .i64 0,.int .i64 0,.int .i64 0,.int .i64 0,.string ⟨#[]⟩] 66)).alloc (.cells #[.slice (some ⟨w.heap.size+1+1+1+1,0,none⟩) 3 3,.slice (some ⟨w.heap.size+1+1+1+1+1,0,none⟩) 2 2] 25)).cell? ⟨w.heap.size+1+1+1+1+1+1,1,none⟩=some (.slice (some ⟨w.heap.size+1+1+1+1+1,0,none⟩) 2 2))∧Ext w (((((((w.alloc (.cells #[.int .i64 0] 3)).alloc (.cells #[.int .i64 1,.int .i64 0] 74)).alloc (.cells #[.int .i64 1] 3)).alloc (.cells #[.int .i64 1,.int .i64 0] 74)).alloc (.cells #[.int .i64 1,.int .i64 0,.int .i64 0,.int .i64 0,.string ⟨#[114]⟩,.slice none 0 0,.slice none 0 0,.int .i64 10,.int .i64 0,.int .i64 0,.int .i64 0,.string ⟨#[]⟩,.slice (some ⟨w.heap.size,0,none⟩) 1 1,.slice (some ⟨w.heap.size+1,0,none⟩) 1 1,.int .i64 10,.int .i64 1,.int .i64 0,.int .i64 0,.string ⟨#[]⟩,.slice (some ⟨w.heap.size+1+1,0,none⟩) 1 1,.slice (some ⟨w.heap.size+1+1+1,0,none⟩) 1 1] 64)).alloc (.cells #[.int .i64 2,.int .i64 0,.int .i64 0,.int .i64 (k:Int),.int .i64 0,.int .i64 0,.string ⟨#[]⟩,.int .i64 2,.int .i64 0,.int .i64 0,.int .i64 0,.int .i64 0,.int .i64 0,.string ⟨#[]⟩] 66)).alloc (.cells #[.slice (some ⟨w.heap.size+1+1+1+1,0,none⟩) 3 3,.slice (some ⟨w.heap.size+1+1+1+1+1,0,none⟩) 2 2] 25)):=by
 have z1:(w.alloc (.cells #[.int .i64 0] 3)).heap.size=w.heap.size+1:=by simp
 have z2:((w.alloc (.cells #[.int .i64 0] 3)).alloc (.cells #[.int .i64 1,.int .i64 0] 74)).heap.size=w.heap.size+1+1:=by simp
 have z3:(((w.alloc (.cells #[.int .i64 0] 3)).alloc (.cells #[.int .i64 1,.int .i64 0] 74)).alloc (.cells #[.int .i64 1] 3)).heap.size=w.heap.size+1+1+1:=by simp
 have z4:((((w.alloc (.cells #[.int .i64 0] 3)).alloc (.cells #[.int .i64 1,.int .i64 0] 74)).alloc (.cells #[.int .i64 1] 3)).alloc (.cells #[.int .i64 1,.int .i64 0] 74)).heap.size=w.heap.size+1+1+1+1:=by simp
 have z5:(((((w.alloc (.cells #[.int .i64 0] 3)).alloc (.cells #[.int .i64 1,.int .i64 0] 74)).alloc (.cells #[.int .i64 1] 3)).alloc (.cells #[.int .i64 1,.int .i64 0] 74)).alloc (.cells #[.int .i64 1,.int .i64 0,.int .i64 0,.int .i64 0,.string ⟨#[114]⟩,.slice none 0 0,.slice none 0 0,.int .i64 10,.int .i64 0,.int .i64 0,.int .i64 0,.string ⟨#[]⟩,.slice (some ⟨w.heap.size,0,none⟩) 1 1,.slice (some ⟨w.heap.size+1,0,none⟩) 1 1,.int .i64 10,.int .i64 1,.int .i64 0,.int .i64 0,.string ⟨#[]⟩,.slice (some ⟨w.heap.size+1+1,0,none⟩) 1 1,.slice (some ⟨w.heap.size+1+1+1,0,none⟩) 1 1] 64)).heap.size=w.heap.size+1+1+1+1+1:=by simp
 have i0:SliceOf Rep.int (w.alloc (.cells #[.int .i64 0] 3)).cell? (.slice (some ⟨w.heap.size,0,none⟩) 1 1) [0]:=slice_lit Rep.int w [.int .i64 0] 3 [[.int .i64 0]] [0] rfl ⟨⟨rfl,by omega⟩,trivial⟩ (by simp [maxLen])
 have a0:SliceOf Rep.agg ((w.alloc (.cells #[.int .i64 0] 3)).alloc (.cells #[.int .i64 1,.int .i64 0] 74)).cell? (.slice (some ⟨(w.alloc (.cells #[.int .i64 0] 3)).heap.size,0,none⟩) 1 1) [⟨1,0⟩]:=slice_lit Rep.agg (w.alloc (.cells #[.int .i64 0] 3)) [.int .i64 1,.int .i64 0] 74 [[.int .i64 1,.int .i64 0]] [⟨1,0⟩] rfl ⟨⟨rfl,by unfold okI;dsimp only;omega⟩,trivial⟩ (by simp [maxLen])
 have i1:SliceOf Rep.int (((w.alloc (.cells #[.int .i64 0] 3)).alloc (.cells #[.int .i64 1,.int .i64 0] 74)).alloc (.cells #[.int .i64 1] 3)).cell? (.slice (some ⟨((w.alloc (.cells #[.int .i64 0] 3)).alloc (.cells #[.int .i64 1,.int .i64 0] 74)).heap.size,0,none⟩) 1 1) [1]:=slice_lit Rep.int ((w.alloc (.cells #[.int .i64 0] 3)).alloc (.cells #[.int .i64 1,.int .i64 0] 74)) [.int .i64 1] 3 [[.int .i64 1]] [1] rfl ⟨⟨rfl,by omega⟩,trivial⟩ (by simp [maxLen])
 have a1:SliceOf Rep.agg ((((w.alloc (.cells #[.int .i64 0] 3)).alloc (.cells #[.int .i64 1,.int .i64 0] 74)).alloc (.cells #[.int .i64 1] 3)).alloc (.cells #[.int .i64 1,.int .i64 0] 74)).cell? (.slice (some ⟨(((w.alloc (.cells #[.int .i64 0] 3)).alloc (.cells #[.int .i64 1,.int .i64 0] 74)).alloc (.cells #[.int .i64 1] 3)).heap.size,0,none⟩) 1 1) [⟨1,0⟩]:=slice_lit Rep.agg (((w.alloc (.cells #[.int .i64 0] 3)).alloc (.cells #[.int .i64 1,.int .i64 0] 74)).alloc (.cells #[.int .i64 1] 3)) [.int .i64 1,.int .i64 0] 74 [[.int .i64 1,.int .i64 0]] [⟨1,0⟩] rfl ⟨⟨rfl,by unfold okI;dsimp only;omega⟩,trivial⟩ (by simp [maxLen])
 rw [z1]at a0
 rw [z2]at i1
 rw [z3]at a1
 have n:SliceOf Rep.node (((((w.alloc (.cells #[.int .i64 0] 3)).alloc (.cells #[.int .i64 1,.int .i64 0] 74)).alloc (.cells #[.int .i64 1] 3)).alloc (.cells #[.int .i64 1,.int .i64 0] 74)).alloc (.cells #[.int .i64 1,.int .i64 0,.int .i64 0,.int .i64 0,.string ⟨#[114]⟩,.slice none 0 0,.slice none 0 0,.int .i64 10,.int .i64 0,.int .i64 0,.int .i64 0,.string ⟨#[]⟩,.slice (some ⟨w.heap.size,0,none⟩) 1 1,.slice (some ⟨w.heap.size+1,0,none⟩) 1 1,.int .i64 10,.int .i64 1,.int .i64 0,.int .i64 0,.string ⟨#[]⟩,.slice (some ⟨w.heap.size+1+1,0,none⟩) 1 1,.slice (some ⟨w.heap.size+1+1+1,0,none⟩) 1 1] 64)).cell? (.slice (some ⟨((((w.alloc (.cells #[.int .i64 0] 3)).alloc (.cells #[.int .i64 1,.int .i64 0] 74)).alloc (.cells #[.int .i64 1] 3)).alloc (.cells #[.int .i64 1,.int .i64 0] 74)).heap.size,0,none⟩) 3 3) (grpTwo k).nodes:=slice_lit Rep.node ((((w.alloc (.cells #[.int .i64 0] 3)).alloc (.cells #[.int .i64 1,.int .i64 0] 74)).alloc (.cells #[.int .i64 1] 3)).alloc (.cells #[.int .i64 1,.int .i64 0] 74)) [.int .i64 1,.int .i64 0,.int .i64 0,.int .i64 0,.string ⟨#[114]⟩,.slice none 0 0,.slice none 0 0,.int .i64 10,.int .i64 0,.int .i64 0,.int .i64 0,.string ⟨#[]⟩,.slice (some ⟨w.heap.size,0,none⟩) 1 1,.slice (some ⟨w.heap.size+1,0,none⟩) 1 1,.int .i64 10,.int .i64 1,.int .i64 0,.int .i64 0,.string ⟨#[]⟩,.slice (some ⟨w.heap.size+1+1,0,none⟩) 1 1,.slice (some ⟨w.heap.size+1+1+1,0,none⟩) 1 1] 64 [[.int .i64 1,.int .i64 0,.int .i64 0,.int .i64 0,.string ⟨#[114]⟩,.slice none 0 0,.slice none 0 0],[.int .i64 10,.int .i64 0,.int .i64 0,.int .i64 0,.string ⟨#[]⟩,.slice (some ⟨w.heap.size,0,none⟩) 1 1,.slice (some ⟨w.heap.size+1,0,none⟩) 1 1],[.int .i64 10,.int .i64 1,.int .i64 0,.int .i64 0,.string ⟨#[]⟩,.slice (some ⟨w.heap.size+1+1,0,none⟩) 1 1,.slice (some ⟨w.heap.size+1+1+1,0,none⟩) 1 1]] (grpTwo k).nodes rfl
  ⟨⟨_,_,rfl,SliceOf.nil _ _,SliceOf.nil _ _,⟨⟨by decide,by decide⟩,⟨by decide,by decide⟩,⟨by decide,by decide⟩,⟨by decide,by decide⟩⟩,(show (⟨#[114]⟩:ByteArray).size≤maxLen by decide)⟩,⟨_,_,rfl,i0.ext (((((Ext.refl _).alloc _).alloc _).alloc _).alloc _).full,a0.ext ((((Ext.refl _).alloc _).alloc _).alloc _).full,⟨⟨by decide,by decide⟩,⟨by decide,by decide⟩,⟨by decide,by decide⟩,⟨by decide,by decide⟩⟩,(show (⟨#[]⟩:ByteArray).size≤maxLen by decide)⟩,⟨_,_,rfl,i1.ext (((Ext.refl _).alloc _).alloc _).full,a1.ext ((Ext.refl _).alloc _).full,⟨⟨by decide,by decide⟩,⟨by decide,by decide⟩,⟨by decide,by decide⟩,⟨by decide,by decide⟩⟩,(show (⟨#[]⟩:ByteArray).size≤maxLen by decide)⟩,trivial⟩ (by simp [maxLen,grpTwo])
 rw [z4]at n
 have e:SliceOf Rep.expr ((((((w.alloc (.cells #[.int .i64 0] 3)).alloc (.cells #[.int .i64 1,.int .i64 0] 74)).alloc (.cells #[.int .i64 1] 3)).alloc (.cells #[.int .i64 1,.int .i64 0] 74)).alloc (.cells #[.int .i64 1,.int .i64 0,.int .i64 0,.int .i64 0,.string ⟨#[114]⟩,.slice none 0 0,.slice none 0 0,.int .i64 10,.int .i64 0,.int .i64 0,.int .i64 0,.string ⟨#[]⟩,.slice (some ⟨w.heap.size,0,none⟩) 1 1,.slice (some ⟨w.heap.size+1,0,none⟩) 1 1,.int .i64 10,.int .i64 1,.int .i64 0,.int .i64 0,.string ⟨#[]⟩,.slice (some ⟨w.heap.size+1+1,0,none⟩) 1 1,.slice (some ⟨w.heap.size+1+1+1,0,none⟩) 1 1] 64)).alloc (.cells #[.int .i64 2,.int .i64 0,.int .i64 0,.int .i64 (k:Int),.int .i64 0,.int .i64 0,.string ⟨#[]⟩,.int .i64 2,.int .i64 0,.int .i64 0,.int .i64 0,.int .i64 0,.int .i64 0,.string ⟨#[]⟩] 66)).cell? (.slice (some ⟨(((((w.alloc (.cells #[.int .i64 0] 3)).alloc (.cells #[.int .i64 1,.int .i64 0] 74)).alloc (.cells #[.int .i64 1] 3)).alloc (.cells #[.int .i64 1,.int .i64 0] 74)).alloc (.cells #[.int .i64 1,.int .i64 0,.int .i64 0,.int .i64 0,.string ⟨#[114]⟩,.slice none 0 0,.slice none 0 0,.int .i64 10,.int .i64 0,.int .i64 0,.int .i64 0,.string ⟨#[]⟩,.slice (some ⟨w.heap.size,0,none⟩) 1 1,.slice (some ⟨w.heap.size+1,0,none⟩) 1 1,.int .i64 10,.int .i64 1,.int .i64 0,.int .i64 0,.string ⟨#[]⟩,.slice (some ⟨w.heap.size+1+1,0,none⟩) 1 1,.slice (some ⟨w.heap.size+1+1+1,0,none⟩) 1 1] 64)).heap.size,0,none⟩) 2 2) (grpE k):=slice_lit Rep.expr (((((w.alloc (.cells #[.int .i64 0] 3)).alloc (.cells #[.int .i64 1,.int .i64 0] 74)).alloc (.cells #[.int .i64 1] 3)).alloc (.cells #[.int .i64 1,.int .i64 0] 74)).alloc (.cells #[.int .i64 1,.int .i64 0,.int .i64 0,.int .i64 0,.string ⟨#[114]⟩,.slice none 0 0,.slice none 0 0,.int .i64 10,.int .i64 0,.int .i64 0,.int .i64 0,.string ⟨#[]⟩,.slice (some ⟨w.heap.size,0,none⟩) 1 1,.slice (some ⟨w.heap.size+1,0,none⟩) 1 1,.int .i64 10,.int .i64 1,.int .i64 0,.int .i64 0,.string ⟨#[]⟩,.slice (some ⟨w.heap.size+1+1,0,none⟩) 1 1,.slice (some ⟨w.heap.size+1+1+1,0,none⟩) 1 1] 64)) [.int .i64 2,.int .i64 0,.int .i64 0,.int .i64 (k:Int),.int .i64 0,.int .i64 0,.string ⟨#[]⟩,.int .i64 2,.int .i64 0,.int .i64 0,.int .i64 0,.int .i64 0,.int .i64 0,.string ⟨#[]⟩] 66 [[.int .i64 2,.int .i64 0,.int .i64 0,.int .i64 (k:Int),.int .i64 0,.int .i64 0,.string ⟨#[]⟩],[.int .i64 2,.int .i64 0,.int .i64 0,.int .i64 0,.int .i64 0,.int .i64 0,.string ⟨#[]⟩]] (grpE k) rfl
  ⟨⟨rfl,by unfold okI;dsimp only;omega,⟨by dsimp only;omega,by dsimp only;omega,Nat.zero_le _⟩⟩,⟨rfl,by unfold okI;dsimp only;omega,⟨by dsimp only;omega,by dsimp only;omega,Nat.zero_le _⟩⟩,trivial⟩ (by simp [maxLen,grpE])
 rw [z5]at e
 exact⟨⟨n.ext (((Ext.refl _).alloc _).alloc _).full,e.ext ((Ext.refl _).alloc _).full⟩,⟨by go_simp,by go_simp⟩,((((((((Ext.refl _).alloc _).alloc _).alloc _).alloc _).alloc _).alloc _).alloc _)⟩
set_option maxRecDepth 100000 in
set_option maxHeartbeats 4000000 in
theorem AlgebraGroups_walk (v0:Value) (l:List Num5) (c:Int) {w:World} (s0:SliceOf Rep.num w.cell? v0 l) (hc:(Lit.int .u8 c).wf=true) (hT:TabW w) :
  Calls Tryz.prog 10 #[v0,.int .u8 c] w fun e w'=>e = .returned (.bool true)∧Ext w w':=by
 have S0:=Lib.hid s0
 obtain⟨p0,q0,rfl,_⟩:=s0.form
 have HT:=Lib.hid hT
 have hc0:0≤c∧c≤255:=by simpa [Lit.wf,IntKind.min,IntKind.max,IntKind.signed,IntKind.bits] using hc
 obtain⟨k,hk,hk2⟩ : ∃k:Nat,c.tmod 2=(k:Int)∧k<2:=⟨(c.tmod 2).toNat,by rw [Int.tmod_eq_emod_of_nonneg hc0.1];omega,by rw [Int.tmod_eq_emod_of_nonneg hc0.1];omega⟩
 clear hc hT s0
 go_enter Tryz.func10,Tryz.ntmps10
 go_wp2_with fail
 refine(rows_gen _ l 12 (by decide) _ S0.out).mono ?_
 rintro e w1 ⟨u1,rfl,t1,x1⟩
 have hsm:=small_gen l
 obtain⟨x,hx⟩ : ∃x,x=genRows l 12:=⟨_,rfl⟩
 rw [←hx]at t1 hsm
 obtain⟨px,cx,rfl,-⟩:=t1.form
 obtain⟨nx,hnx⟩ : ∃n,n=x.length:=⟨_,rfl⟩
 rw [←hnx]at t1 ⊢
 have XX:=Lib.hid t1
 have X1:=Lib.hid x1
 have HSM:=Lib.hid hsm
 have HNX:=Lib.hid hnx
 clear hx t1 x1 S0 hsm hnx
 go_wp2_with fail
 obtain⟨⟨n1,e1⟩,⟨c0,c1⟩,x2⟩:=lit_q4 w1 k hk2
 obtain⟨B,hB⟩ : ∃z,z=w1.heap.size+1+1+1+1+1+1:=⟨_,rfl⟩
 obtain⟨be,hbe⟩ : ∃z,z=w1.heap.size+1+1+1+1+1:=⟨_,rfl⟩
 obtain⟨bn,hbn⟩ : ∃z,z=w1.heap.size+1+1+1+1:=⟨_,rfl⟩
 obtain⟨w2,hw2⟩ : ∃z,z=(((((((w1.alloc (.cells #[.int .i64 0] 3)).alloc (.cells #[.int .i64 1,.int .i64 0] 74)).alloc (.cells #[.int .i64 1] 3)).alloc (.cells #[.int .i64 1,.int .i64 0] 74)).alloc (.cells #[.int .i64 1,.int .i64 0,.int .i64 0,.int .i64 0,.string ⟨#[114]⟩,.slice none 0 0,.slice none 0 0,.int .i64 10,.int .i64 0,.int .i64 0,.int .i64 0,.string ⟨#[]⟩,.slice (some ⟨w1.heap.size,0,none⟩) 1 1,.slice (some ⟨w1.heap.size+1,0,none⟩) 1 1,.int .i64 10,.int .i64 1,.int .i64 0,.int .i64 0,.string ⟨#[]⟩,.slice (some ⟨w1.heap.size+1+1,0,none⟩) 1 1,.slice (some ⟨w1.heap.size+1+1+1,0,none⟩) 1 1] 64)).alloc (.cells #[.int .i64 2,.int .i64 0,.int .i64 0,.int .i64 (k:Int),.int .i64 0,.int .i64 0,.string ⟨#[]⟩,.int .i64 2,.int .i64 0,.int .i64 0,.int .i64 0,.int .i64 0,.int .i64 0,.string ⟨#[]⟩] 66)).alloc (.cells #[.slice (some ⟨w1.heap.size+1+1+1+1,0,none⟩) 3 3,.slice (some ⟨w1.heap.size+1+1+1+1+1,0,none⟩) 2 2] 25)):=⟨_,rfl⟩
 rw [←hw2]at n1 e1 c0 c1 x2 ⊢
 rw [←hB]at c0 c1 ⊢
 rw [←hbe]at e1 c1 ⊢
 rw [←hbn]at n1 c0 ⊢
 clear hw2 hB hbe hbn
 have NN:=Lib.hid n1
 have EE:=Lib.hid e1
 have X2:=Lib.hid (X1.out.trans x2)
 have XX2:=Lib.hid (XX.out.ext x2.full)
 have e0:=cell_lt c0
 clear n1 e1 x2 X1 XX
 go_region
 have x3:Ext w2 (w2.alloc (.cells #[.slice (some ⟨bn,0,none⟩) 2 3,.slice (some ⟨be,0,none⟩) 2 2] 25)).drew:=((Ext.refl _).alloc _).drew
 have y0:(w2.alloc (.cells #[.slice (some ⟨bn,0,none⟩) 2 3,.slice (some ⟨be,0,none⟩) 2 2] 25)).drew.cell? ⟨w2.heap.size,0,none⟩=some (.slice (some ⟨bn,0,none⟩) 2 3):=by go_simp
 have y1:(w2.alloc (.cells #[.slice (some ⟨bn,0,none⟩) 2 3,.slice (some ⟨be,0,none⟩) 2 2] 25)).drew.cell? ⟨w2.heap.size,1,none⟩=some (.slice (some ⟨be,0,none⟩) 2 2):=by go_simp
 obtain⟨B2,hB2⟩ : ∃z,z=w2.heap.size:=⟨_,rfl⟩
 obtain⟨w3,hw3⟩ : ∃z,z=(w2.alloc (.cells #[.slice (some ⟨bn,0,none⟩) 2 3,.slice (some ⟨be,0,none⟩) 2 2] 25)).drew:=⟨_,rfl⟩
 rw [←hB2]at y0 y1 ⊢
 rw [←hw3]at x3 y0 y1 ⊢
 clear hB2 hw3 e0
 replace c0:=x3.at c0
 replace c1:=x3.at c1
 have N3:=Lib.hid (NN.out.ext x3.full)
 have E3:=Lib.hid (EE.out.ext x3.full)
 have M3:=Lib.hid (show SliceOf Rep.node w3.cell? (.slice (some ⟨bn,0,none⟩) 2 3) (grpOne k).nodes from N3.out.takeV 2 (by simp [grpTwo]))
 have X3:=Lib.hid (X2.out.trans x3)
 have XX3:=Lib.hid (XX2.out.ext x3.full)
 have e0:=cell_lt c0
 have e1:=cell_lt y0
 clear x3 NN EE X2 XX2
 go_wp2_with fail
 have hS0:Ext w3 w3.drew∧w3.drew.cell? ⟨B2,0,none⟩=some (.slice (some ⟨bn,0,none⟩) 2 3)∧w3.drew.cell? ⟨B2,1,none⟩=some (.slice (some ⟨be,0,none⟩) 2 2):=⟨(Ext.refl _).drew,(Ext.refl _).drew.at y0,(Ext.refl _).drew.at y1⟩
 go_region_held3 (fun w'=>Ext w3 w'∧w'.cell? ⟨B2,0,none⟩=some (.slice (some ⟨bn,0,none⟩) 2 3)∧w'.cell? ⟨B2,1,none⟩=some (.slice (some ⟨be,0,none⟩) 2 2))
  (first |with_reducible assumption | with_reducible exact K5 | with_reducible exact K4)
  (first
   |(go_at_call 25;refine(rowdb_any _ _ x [] _ (XX3.out.ext (Ext.refl _).drew.full) (SliceOf.nil _ _)).mono ?_;rintro e w4 ⟨v4,rfl,s4,x4⟩;have K4:=keepAw hS0 x4;have S4:=Lib.hid s4)
   |(go_at_call 21;refine(eval_query (grpOne k) (dbA x []) _ _ _ _ (M3.out.ext K4.1.full) (E3.out.ext K4.1.full) S4.out (by simp [dbA]) (grp_fitQ1 k) (run_one k hk2 x HSM.out).2 (HT.out.ext (X3.out.trans K4.1))).mono ?_;rintro e w5 ⟨v5,rfl,s5,x5⟩;have K5:=keepAw K4 x5;have S5:=Lib.hid s5)
   |fail)
 clear hS0
 have X5:=Lib.hid (X3.out.trans K5.1)
 have XX5:=Lib.hid (XX3.out.ext K5.1.full)
 have N5:=Lib.hid (N3.out.ext K5.1.full)
 have E5:=Lib.hid (E3.out.ext K5.1.full)
 replace c0:=K5.1.at c0
 replace c1:=K5.1.at c1
 rw [(run_one k hk2 x HSM.out).1]at s5 ⊢
 dsimp only at s5 ⊢
 obtain⟨ra,hra⟩ : ∃z,z=sortBy cmpRow (groupP (grpE k) [0] [⟨1,0⟩] x):=⟨_,rfl⟩
 rw [←hra]at s5
 have RA:=Lib.hid hra
 obtain⟨pa,ca,rfl,-,-,hpa⟩:=s5.form
 have HPA:=Lib.hid hpa
 clear hpa
 obtain⟨na,hna⟩ : ∃z,z=ra.length:=⟨_,rfl⟩
 rw [←hna]at s5 ⊢
 have LA:=Lib.hid hna
 have SA:=Lib.hid s5
 replace e0:=cell_lt c0
 clear K4 K5 x4 x5 s4 S4 S5 X3 XX3 N3 E3 M3 y0 y1 e1 s5 hra hna
 go_wp2_with fail
 have hS0:Ext w5 w5.drew∧w5.drew.cell? ⟨B,0,none⟩=some (.slice (some ⟨bn,0,none⟩) 3 3)∧w5.drew.cell? ⟨B,1,none⟩=some (.slice (some ⟨be,0,none⟩) 2 2):=⟨(Ext.refl _).drew,(Ext.refl _).drew.at c0,(Ext.refl _).drew.at c1⟩
 go_region_held3 (fun w'=>Ext w5 w'∧w'.cell? ⟨B,0,none⟩=some (.slice (some ⟨bn,0,none⟩) 3 3)∧w'.cell? ⟨B,1,none⟩=some (.slice (some ⟨be,0,none⟩) 2 2))
  (first |with_reducible assumption | with_reducible exact K7 | with_reducible exact K6)
  (first
   |(go_at_call 25;refine(rowdb_any _ _ x [] _ (XX5.out.ext (Ext.refl _).drew.full) (SliceOf.nil _ _)).mono ?_;rintro e w6 ⟨v6,rfl,s6,x6⟩;have K6:=keepAw hS0 x6;have S6:=Lib.hid s6)
   |(go_at_call 21;refine(eval_query (grpTwo k) (dbA x []) _ _ _ _ (N5.out.ext K6.1.full) (E5.out.ext K6.1.full) S6.out (by simp [dbA]) (grp_fitQ2 k) (run_two k hk2 x HSM.out).2 (HT.out.ext (X5.out.trans K6.1))).mono ?_;rintro e w7 ⟨v7,rfl,s7,x7⟩;have K7:=keepAw K6 x7;have S7:=Lib.hid s7)
   |fail)
 clear hS0
 have X7:=Lib.hid (X5.out.trans K7.1)
 have XX7:=Lib.hid (XX5.out.ext K7.1.full)
 have SA7:=Lib.hid (SA.out.ext K7.1.full)
 rw [(run_two k hk2 x HSM.out).1]at s7 ⊢
 dsimp only at s7 ⊢
 obtain⟨rb,hrb⟩ : ∃z,z=sortBy cmpRow (groupP (grpE k) [1] [⟨1,0⟩] (groupP (grpE k) [0] [⟨1,0⟩] x)):=⟨_,rfl⟩
 rw [←hrb]at s7
 have HAB:=Lib.hid (grp_law k x ra rb HSM.out RA.out hrb)
 obtain⟨pb,cb,rfl,-,-,hpb⟩:=s7.form
 have HPB:=Lib.hid hpb
 clear hpb
 obtain⟨nb,hnb⟩ : ∃z,z=rb.length:=⟨_,rfl⟩
 rw [←hnb]at s7 ⊢
 have LB:=Lib.hid hnb
 have SB:=Lib.hid s7
 clear K6 K7 x6 x7 s6 S6 S7 X5 XX5 N5 E5 SA c0 c1 e0 s7 hrb hnb RA
 go_wp2_with fail
 have hna12:na≤12:=by have:=LA.out;have:=HAB.out.2.2.2.1;omega
 have hnb12:nb≤12:=by have:=LB.out;have:=HAB.out.2.2.2.1;have:=HAB.out.2.2.1;omega
 go_loopg [12,62] na (fun gk out i wr=> ∃j:Nat,∃s:Int,j≤na∧gk=na - j∧i = .int .i64 j∧out = .int .i64 s∧s=((ra.take j).map cntOf).sum∧(0≤s∧s≤12*j)∧Ext w7 wr)
 case atStart=>exact⟨0,0,by omega,rfl,rfl,rfl,by simp,by omega,Ext.refl _⟩
 case round =>
  obtain⟨j,sm,hj,rfl,rfl,rfl,hsm,hsb,hx⟩:=hrel
  by_cases hlt:j<na
  ·have hd:decide ((j:Int)<(na:Int))=true:=by simp;omega
   have hjl:j<ra.length:=by have:=LA.out;omega
   obtain⟨ba,oa,rfl⟩:=HPA.out (by decide) (by omega)
   obtain⟨u,v,d0,d1,su,sv⟩:=row_at SA7.out j hjl
   obtain⟨val,n,hv,hn⟩:=HAB.out.1 ra[j] (List.getElem_mem _)
   have hsum:((ra.take (j+1)).map cntOf).sum=sm+(n:Int):=by
    rw [List.take_succ_eq_append_getElem hjl,List.map_append,List.sum_append,←hsm]
    unfold cntOf
    rw [List.map_cons,List.map_nil,hv]
    simp [intVal]
   rw [hv]at su
   obtain⟨pu,cu,rfl,-,-,hpu⟩:=su.form
   obtain⟨bu,ou,rfl⟩:=hpu (by decide) (by simp)
   obtain⟨pv,cv,rfl,-⟩:=sv.form
   obtain⟨f0,f1,f2,-⟩:=val_cells su 1 (by simp)
   simp only [List.getElem_cons_succ,List.getElem_cons_zero,intVal,Nat.one_mul]at f0 f1 f2
   have hl2:([val,intVal n]:List Val).length=2:=rfl
   rw [hl2]at d0
   obtain⟨lv,hlv⟩ : ∃z,z=ra[j].lin.length:=⟨_,rfl⟩
   rw [←hlv]at d1
   replace d0:=hx.at d0
   replace d1:=hx.at d1
   replace f0:=hx.at f0
   replace f1:=hx.at f1
   replace f2:=hx.at f2
   have e0:=cell_lt d0
   have e1:=cell_lt f0
   have hwrap:IntKind.i64.wrap (sm+(n:Int))=sm+(n:Int):=Go.IntWalk.i64_in _ (by have:=HAB.out.2.2.2.1;omega)
   have HSU:=Lib.hid hsum
   have HV:=Lib.hid hv
   clear hsm hsum hv su sv hpu hlv hl2
   go_wp2_with fail
   go_roundg (na - (j+1))
   case measure=>omega
   case rel=>exact⟨j+1,sm+n,by omega,rfl,by go_num,rfl,HSU.out.symm,by omega,hx.alloc _⟩
  ·have hjn:j=na:=by omega
   have hd:decide ((j:Int)<(na:Int))=false:=by simp;omega
   rw [List.take_of_length_le (by have:=LA.out;omega),HAB.out.2.1]at hsm
   have X8:=Lib.hid (X7.out.trans hx)
   have XX8:=Lib.hid (XX7.out.ext hx.full)
   have SB8:=Lib.hid (SB.out.ext hx.full)
   have HSM2:=Lib.hid hsm
   obtain⟨w8,rfl⟩ : ∃z,z=wr:=⟨wr,rfl⟩
   clear hx XX7 SB X7 hsm hjn
   go_wp2_with fail
   go_loopg [80] nb (fun gk i wr=> ∃a:Nat,a≤nb∧gk=nb - a∧i = .int .i64 a∧Ext w8 wr)
   case atStart=>exact⟨0,by omega,rfl,rfl,Ext.refl _⟩
   case round =>
    obtain⟨a,ha,rfl,rfl,hx⟩:=hrel
    by_cases hlt2:a<nb
    ·have hd2:decide ((a:Int)<(nb:Int))=true:=by simp;omega
     have hal:a<rb.length:=by have:=LB.out;omega
     obtain⟨ba,oa,rfl⟩:=HPB.out (by decide) (by omega)
     obtain⟨u,v,d0,d1,su,sv⟩:=row_at SB8.out a hal
     obtain⟨val,hv⟩:=HAB.out.2.2.2.2 rb[a] (List.getElem_mem _)
     rw [hv]at su
     obtain⟨pu,cu,rfl,-,-,hpu⟩:=su.form
     obtain⟨bu,ou,rfl⟩:=hpu (by decide) (by simp)
     obtain⟨pv,cv,rfl,-⟩:=sv.form
     obtain⟨f0,f1,f2,-⟩:=val_cells su 1 (by simp)
     simp only [List.getElem_cons_succ,List.getElem_cons_zero,intVal,Nat.one_mul,emptyB]at f0 f1 f2
     have hl2:([val,intVal 1]:List Val).length=2:=rfl
     rw [hl2]at d0
     obtain⟨lv,hlv⟩ : ∃z,z=rb[a].lin.length:=⟨_,rfl⟩
     rw [←hlv]at d1
     replace d0:=hx.at d0
     replace d1:=hx.at d1
     replace f0:=hx.at f0
     replace f1:=hx.at f1
     replace f2:=hx.at f2
     have e0:=cell_lt d0
     have e1:=cell_lt f0
     have HX:=Lib.hid hx
     clear hv su sv hpu hlv hl2 hx
     go_wp2_with fail
     have xb:Ext wr (wr.alloc (.cells #[.slice (some ⟨bu,ou,none⟩) 2 cu,.slice pv lv cv] 58)):=(Ext.refl wr).alloc _
     have g0:(wr.alloc (.cells #[.slice (some ⟨bu,ou,none⟩) 2 cu,.slice pv lv cv] 58)).cell? ⟨wr.heap.size,0,none⟩=some (.slice (some ⟨bu,ou,none⟩) 2 cu):=by go_simp
     obtain⟨bx,hbx⟩ : ∃z,z=wr.heap.size:=⟨_,rfl⟩
     obtain⟨wb,hwb⟩ : ∃z,z=(wr.alloc (.cells #[.slice (some ⟨bu,ou,none⟩) 2 cu,.slice pv lv cv] 58)):=⟨_,rfl⟩
     rw [←hwb]at xb g0 ⊢
     rw [←hbx]at g0 ⊢
     have HBX:=Lib.hid hbx
     clear hwb hbx d0 d1 e0 e1
     replace f0:=xb.at f0
     replace f1:=xb.at f1
     replace f2:=xb.at f2
     have e0:=cell_lt g0
     have e1:=cell_lt f0
     have hS0:Ext w8 wb.drew∧wb.drew.cell? ⟨bx,0,none⟩=some (.slice (some ⟨bu,ou,none⟩) 2 cu)∧wb.drew.cell? ⟨bu,ou+3,none⟩=some (.int .i64 1)∧wb.drew.cell? ⟨bu,ou+3+1,none⟩=some (.int .i64 1)∧wb.drew.cell? ⟨bu,ou+3+2,none⟩=some (.string ⟨#[]⟩):=keepAw4 ⟨HX.out.trans xb,g0,f0,f1,f2⟩ (Ext.refl wb).drew
     clear xb
     go_region_held3 (fun w'=>Ext w8 w'∧w'.cell? ⟨bx,0,none⟩=some (.slice (some ⟨bu,ou,none⟩) 2 cu)∧w'.cell? ⟨bu,ou+3,none⟩=some (.int .i64 1)∧w'.cell? ⟨bu,ou+3+1,none⟩=some (.int .i64 1)∧w'.cell? ⟨bu,ou+3+2,none⟩=some (.string ⟨#[]⟩))
      (first |with_reducible assumption | with_reducible exact K9)
      (first
       |(go_at_call 32;refine(int_value 1 _).mono ?_;rintro e w9 ⟨rfl,x9⟩;have K9:=keepAw4 hS0 x9;simp only [valV,intVal,emptyB])
       |fail)
     all_goals
      clear hS0
      go_wp2_with fail
      go_roundg (nb - (a+1))
      case measure=>omega
      case rel=>exact⟨a+1,by omega,rfl,by go_num,K9.1⟩
    ·have han:a=nb:=by omega
     have hd2:decide ((a:Int)<(nb:Int))=false:=by simp;omega
     have X9:=Lib.hid (X8.out.trans hx)
     have XX9:=Lib.hid (XX8.out.ext hx.full)
     have hnl:SliceOf Rep.node (wr.alloc (.cells #[.int .i64 1,.int .i64 0,.int .i64 0,.int .i64 0,.string ⟨#[114]⟩,.slice none 0 0,.slice none 0 0,.int .i64 9,.int .i64 0,.int .i64 0,.int .i64 0,.string ⟨#[]⟩,.slice none 0 0,.slice none 0 0] 64)).cell? (.slice (some ⟨wr.heap.size,0,none⟩) 2 2) grpDis.nodes:=slice_lit Rep.node wr [.int .i64 1,.int .i64 0,.int .i64 0,.int .i64 0,.string ⟨#[114]⟩,.slice none 0 0,.slice none 0 0,.int .i64 9,.int .i64 0,.int .i64 0,.int .i64 0,.string ⟨#[]⟩,.slice none 0 0,.slice none 0 0] 64 [[.int .i64 1,.int .i64 0,.int .i64 0,.int .i64 0,.string ⟨#[114]⟩,.slice none 0 0,.slice none 0 0],[.int .i64 9,.int .i64 0,.int .i64 0,.int .i64 0,.string ⟨#[]⟩,.slice none 0 0,.slice none 0 0]] grpDis.nodes rfl
      ⟨⟨_,_,rfl,SliceOf.nil _ _,SliceOf.nil _ _,⟨⟨by decide,by decide⟩,⟨by decide,by decide⟩,⟨by decide,by decide⟩,⟨by decide,by decide⟩⟩,(show (⟨#[114]⟩:ByteArray).size≤maxLen by decide)⟩,⟨_,_,rfl,SliceOf.nil _ _,SliceOf.nil _ _,⟨⟨by decide,by decide⟩,⟨by decide,by decide⟩,⟨by decide,by decide⟩,⟨by decide,by decide⟩⟩,(show (⟨#[]⟩:ByteArray).size≤maxLen by decide)⟩,trivial⟩ (by simp [maxLen,grpDis])
     have ND:=Lib.hid hnl
     have XN:=Lib.hid ((Ext.refl wr).alloc (.cells #[.int .i64 1,.int .i64 0,.int .i64 0,.int .i64 0,.string ⟨#[114]⟩,.slice none 0 0,.slice none 0 0,.int .i64 9,.int .i64 0,.int .i64 0,.int .i64 0,.string ⟨#[]⟩,.slice none 0 0,.slice none 0 0] 64))
     clear hx X8 XX8 SB8 hnl han
     go_wp2_with fail
     refine(rowdb_any _ _ x [] _ (XX9.out.ext XN.out.full) (SliceOf.nil _ _)).mono ?_
     rintro e w10 ⟨v10,rfl,s10,x10⟩
     obtain⟨p10,c10,rfl,-⟩:=s10.form
     have S10:=Lib.hid s10
     have X10:=Lib.hid (XN.out.trans x10)
     have ND2:=Lib.hid (ND.out.ext x10.full)
     clear s10 x10 ND XN
     go_wp2_with fail
     refine(eval_query grpDis (dbA x []) _ _ _ _ ND2.out (SliceOf.nil _ _) S10.out (by simp [dbA]) grp_fitQ3 (run_dis x HSM.out).2 (HT.out.ext (X9.out.trans X10.out))).mono ?_
     rintro e w11 ⟨v11,rfl,s11,x11⟩
     have X11:=Lib.hid (X9.out.trans (X10.out.trans x11))
     have XX11:=Lib.hid (XX9.out.ext (X10.out.trans x11).full)
     rw [(run_dis x HSM.out).1]at s11 ⊢
     dsimp only at s11 ⊢
     obtain⟨rd,hrd⟩ : ∃z,z=sortBy cmpRow (distP x):=⟨_,rfl⟩
     rw [←hrd]at s11
     have HDL:=Lib.hid (dis_law x rd HSM.out hrd)
     obtain⟨pd,cd,rfl,-,-,hpd⟩:=s11.form
     have HPD:=Lib.hid hpd
     clear hpd
     obtain⟨nd,hnd⟩ : ∃z,z=rd.length:=⟨_,rfl⟩
     rw [←hnd]at s11 ⊢
     have LD:=Lib.hid hnd
     have SD:=Lib.hid s11
     have hnd12:nd≤12:=by have:=HDL.out.1;omega
     clear s11 hrd hnd x11 S10 ND2 X10 X9 XX9
     go_wp2_with fail
     go_loopg [109] nd (fun gk i wr=> ∃a:Nat,a≤nd∧gk=nd - a∧i = .int .i64 a∧Ext w11 wr)
     case atStart=>exact⟨0,by omega,rfl,rfl,Ext.refl _⟩
     case round =>
      obtain⟨a,ha,rfl,rfl,hx⟩:=hrel
      by_cases hlt3:a<nd
      ·have hd3:decide ((a:Int)<(nd:Int))=true:=by simp;omega
       have hal:a<rd.length:=by have:=LD.out;omega
       obtain⟨ba,oa,rfl⟩:=HPD.out (by decide) (by omega)
       obtain⟨u,v,d0,d1,su,sv⟩:=row_at SD.out a hal
       have hmu:=HDL.out.2 rd[a] (List.getElem_mem _)
       obtain⟨vs,hvs⟩ : ∃z,z=rd[a].vals:=⟨_,rfl⟩
       rw [←hvs]at su hmu
       obtain⟨pu,cu,rfl,-⟩:=su.form
       obtain⟨pv,cv,rfl,-⟩:=sv.form
       obtain⟨lv,hlv⟩ : ∃z,z=rd[a].lin.length:=⟨_,rfl⟩
       rw [←hlv]at d1
       obtain⟨nv,hnv⟩ : ∃z,z=vs.length:=⟨_,rfl⟩
       rw [←hnv]at d0 su
       replace d0:=hx.at d0
       replace d1:=hx.at d1
       have e0:=cell_lt d0
       have HX:=Lib.hid hx
       have SU:=Lib.hid (su.ext hx.full)
       have SDr:=Lib.hid (SD.out.ext hx.full)
       have XXr:=Lib.hid (XX11.out.ext hx.full)
       have HMU:=Lib.hid hmu
       obtain⟨M,hM⟩ : ∃z,z=mult vs x:=⟨_,rfl⟩
       have hM0:((M:Int)==0)=false:=by have:=hmu.2;rw [←hM]at this;simp;omega
       have HM:=Lib.hid hM
       clear hvs hnv hlv su sv hx hmu hM
       go_wp2_with fail
       refine(multiplicity_rows _ _ rd vs _ (SDr.out.ext ((Ext.refl _).alloc _).full) (SU.out.ext ((Ext.refl _).alloc _).full)).mono ?_
       rintro e w12 ⟨rfl,x12⟩
       rw [HMU.out.1]
       have X12:=Lib.hid (show Ext wr w12 from ((Ext.refl wr).alloc _).trans x12)
       have g0:=x12.at (show (wr.alloc (.cells #[.slice pu nv cu,.slice pv lv cv] 58)).cell? ⟨wr.heap.size,0,none⟩=some (.slice pu nv cu)by go_simp)
       have e1:=cell_lt g0
       clear x12 d0 d1 e0
       go_wp2_with fail
       refine(multiplicity_rows _ _ x vs _ (XXr.out.ext X12.out.full) (SU.out.ext X12.out.full)).mono ?_
       rintro e w13 ⟨rfl,x13⟩
       rw [←HM.out]
       have X13:=Lib.hid (X12.out.trans x13)
       clear x13 g0 e1
       go_wp2_with fail
       go_roundg (nd - (a+1))
       case measure=>omega
       case rel=>exact⟨a+1,by omega,rfl,by go_num,HX.out.trans X13.out⟩
      ·have han:a=nd:=by omega
       have hd3:decide ((a:Int)<(nd:Int))=false:=by simp;omega
       have X14:=Lib.hid (X11.out.trans hx)
       clear hx han X11
       obtain rfl:na=nb:=by have:=LA.out;have:=LB.out;have:=HAB.out.2.2.1;omega
       obtain rfl:sm=(nx:Int):=by have:=HSM2.out;have:=HNX.out;omega
       go_wp2_with fail
       refine(awake_algebra _ (HT.out.ext X14.out)).mono ?_
       rintro e w15 ⟨rfl,x15⟩
       have X15:=Lib.hid (X14.out.trans x15)
       clear x15 X14
       go_wp2_with fail
       go_ret
       exact⟨rfl,X15.out⟩
end Go.Proofs.YtombmdaohcjokaaGreatDoor
namespace Go.Proofs.YtombmdaohcjokaaGreatDoor
open Go.RowKit Go.Deep Go.ChangeShapes Go.WideShapes Go.ChangeAt
theorem cellsNum:Tryz.prog.cellsOf 121=5:=by kernel_rfl
theorem cellsU16:Tryz.prog.cellsOf 69=1:=by kernel_rfl
theorem list_five {α:Type} {l:List α} (h:l.length=5) : ∃a b c d e,l = [a,b,c,d,e]:=by
 match l,h with
 |[a,b,c,d,e],_=>exact⟨a,b,c,d,e,rfl⟩
theorem opens_num:Opens Tryz.prog 121 Rep.num:=by
 intro H enc w base spare held fuel cs x h
 obtain⟨ys,m,_,_,hl,hn,hel⟩:=DataW.trod_array Tryz.underlying121 h
 rw [cellsNum]at hl
 obtain⟨c0,c1,c2,c3,c4,rfl⟩:=list_five hl
 have g : ∀i (hi:i<5),DataW.trod enc Tryz.prog w base spare held m 69 (([c0,c1,c2,c3,c4].drop (i*1)).take 1)=some (ys[i]'(by omega)):=fun i hi=>by
  have h1:=hel i hi
  rwa [cellsU16,List.getElem?_eq_getElem (by omega)]at h1
 obtain⟨a0,e0,_,w0⟩:=DataW.trod_int Tryz.underlying69 (g 0 (by decide))
 obtain⟨a1,e1,_,w1⟩:=DataW.trod_int Tryz.underlying69 (g 1 (by decide))
 obtain⟨a2,e2,_,w2⟩:=DataW.trod_int Tryz.underlying69 (g 2 (by decide))
 obtain⟨a3,e3,_,w3⟩:=DataW.trod_int Tryz.underlying69 (g 3 (by decide))
 obtain⟨a4,e4,_,w4⟩:=DataW.trod_int Tryz.underlying69 (g 4 (by decide))
 simp at e0 e1 e2 e3 e4
 subst e0 e1 e2 e3 e4
 exact⟨⟨a0,a1,a2,a3,a4⟩,rfl,bounds_u16 w0,bounds_u16 w1,bounds_u16 w2,bounds_u16 w3,bounds_u16 w4⟩
theorem opens_nums:Opens Tryz.prog 48 (Rep.slice Rep.num):=opens_slice Tryz.underlying48 cellsNum opens_num
end Go.Proofs.YtombmdaohcjokaaGreatDoor
