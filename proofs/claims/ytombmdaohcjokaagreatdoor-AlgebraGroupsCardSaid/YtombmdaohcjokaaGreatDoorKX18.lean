/- joined texts of a proof: AwkQ, FullW, Tab3, BagQ, GenO -/
import Derived.Test.YtombmdaohcjokaaGreatDoorKX17
import Derived.Test.YtombmdaohcjokaaGreatDoorRows
import Derived.Test.YtombmdaohcjokaaGreatDoorKX03
import Derived.ProofKit
import Derived.LaidMore
import Derived.Lib.LaidTab
import Derived.MakeChecks
import Derived.Stop.LaidErr
import Derived.ChangeSame
import Derived.Test.YtombmdaohcjokaaGreatDoorKX11
import Derived.Test.YtombmdaohcjokaaGreatDoorKX10
import Derived.Test.YtombmdaohcjokaaGreatDoorKX08
namespace Go.Proofs.YtombmdaohcjokaaGreatDoor
open Go.RowKit
theorem genV_few (x y:Int):(genVals x y).length≤900∧ ∀z∈genVals x y,z.s.size≤1048576:=by
 refine⟨by simp [genVals],fun v hv=> ?_⟩
 have hv:v∈ [genV0 x,genV1 y]:=hv
 have h : ∀z,(genStr z).size≤2:=fun z=>by unfold genStr;split;exact Nat.zero_le _;split <;> decide
 simp only [List.mem_cons,List.not_mem_nil,or_false]at hv
 rcases hv with rfl | rfl
 ·unfold genV0;split
  ·exact Nat.zero_le _
  ·exact Nat.zero_le _
 ·unfold genV1;split
  ·exact Nat.zero_le _
  ·exact Nat.le_trans (h _) (by decide)
theorem lit_q1 (w:World):SliceOf Rep.node (((w.alloc (.cells #[.int .i64 1,.int .i64 0] 74)).alloc (.cells #[.int .i64 1,.int .i64 0,.int .i64 0,.int .i64 0,.string ⟨#[114]⟩,.slice none 0 0,.slice none 0 0,.int .i64 10,.int .i64 0,.int .i64 0,.int .i64 0,.string ⟨#[]⟩,.slice none 0 0,.slice (some ⟨w.heap.size,0,none⟩) 1 1] 64)).alloc (.cells #[.slice (some ⟨w.heap.size+1,0,none⟩) 2 2,.slice none 0 0] 25)).cell? (.slice (some ⟨w.heap.size+1,0,none⟩) 2 2) qA1.nodes∧((((w.alloc (.cells #[.int .i64 1,.int .i64 0] 74)).alloc (.cells #[.int .i64 1,.int .i64 0,.int .i64 0,.int .i64 0,.string ⟨#[114]⟩,.slice none 0 0,.slice none 0 0,.int .i64 10,.int .i64 0,.int .i64 0,.int .i64 0,.string ⟨#[]⟩,.slice none 0 0,.slice (some ⟨w.heap.size,0,none⟩) 1 1] 64)).alloc (.cells #[.slice (some ⟨w.heap.size+1,0,none⟩) 2 2,.slice none 0 0] 25)).cell? ⟨w.heap.size+1+1,0,none⟩=some (.slice (some ⟨w.heap.size+1,0,none⟩) 2 2)∧(((w.alloc (.cells #[.int .i64 1,.int .i64 0] 74)).alloc (.cells #[.int .i64 1,.int .i64 0,.int .i64 0,.int .i64 0,.string ⟨#[114]⟩,.slice none 0 0,.slice none 0 0,.int .i64 10,.int .i64 0,.int .i64 0,.int .i64 0,.string ⟨#[]⟩,.slice none 0 0,.slice (some ⟨w.heap.size,0,none⟩) 1 1] 64)).alloc (.cells #[.slice (some ⟨w.heap.size+1,0,none⟩) 2 2,.slice none 0 0] 25)).cell? ⟨w.heap.size+1+1,1,none⟩=some (.slice none 0 0))∧Ext w (((w.alloc (.cells #[.int .i64 1,.int .i64 0] 74)).alloc (.cells #[.int .i64 1,.int .i64 0,.int .i64 0,.int .i64 0,.string ⟨#[114]⟩,.slice none 0 0,.slice none 0 0,.int .i64 10,.int .i64 0,.int .i64 0,.int .i64 0,.string ⟨#[]⟩,.slice none 0 0,.slice (some ⟨w.heap.size,0,none⟩) 1 1] 64)).alloc (.cells #[.slice (some ⟨w.heap.size+1,0,none⟩) 2 2,.slice none 0 0] 25)):=by
 have xa:=(Ext.refl (w.alloc (.cells #[.int .i64 1,.int .i64 0] 74))).alloc (.cells #[.int .i64 1,.int .i64 0,.int .i64 0,.int .i64 0,.string ⟨#[114]⟩,.slice none 0 0,.slice none 0 0,.int .i64 10,.int .i64 0,.int .i64 0,.int .i64 0,.string ⟨#[]⟩,.slice none 0 0,.slice (some ⟨w.heap.size,0,none⟩) 1 1] 64)
 have a:SliceOf Rep.agg (w.alloc (.cells #[.int .i64 1,.int .i64 0] 74)).cell? (.slice (some ⟨w.heap.size,0,none⟩) 1 1) [⟨1,0⟩]:=slice_lit Rep.agg w [.int .i64 1,.int .i64 0] 74 [[.int .i64 1,.int .i64 0]] [⟨1,0⟩] rfl ⟨⟨rfl,by unfold okI;dsimp only;omega⟩,trivial⟩ (by simp [maxLen])
 have n:SliceOf Rep.node ((w.alloc (.cells #[.int .i64 1,.int .i64 0] 74)).alloc (.cells #[.int .i64 1,.int .i64 0,.int .i64 0,.int .i64 0,.string ⟨#[114]⟩,.slice none 0 0,.slice none 0 0,.int .i64 10,.int .i64 0,.int .i64 0,.int .i64 0,.string ⟨#[]⟩,.slice none 0 0,.slice (some ⟨w.heap.size,0,none⟩) 1 1] 64)).cell? (.slice (some ⟨(w.alloc (.cells #[.int .i64 1,.int .i64 0] 74)).heap.size,0,none⟩) 2 2) qA1.nodes:=slice_lit Rep.node (w.alloc (.cells #[.int .i64 1,.int .i64 0] 74)) [.int .i64 1,.int .i64 0,.int .i64 0,.int .i64 0,.string ⟨#[114]⟩,.slice none 0 0,.slice none 0 0,.int .i64 10,.int .i64 0,.int .i64 0,.int .i64 0,.string ⟨#[]⟩,.slice none 0 0,.slice (some ⟨w.heap.size,0,none⟩) 1 1] 64 [[.int .i64 1,.int .i64 0,.int .i64 0,.int .i64 0,.string ⟨#[114]⟩,.slice none 0 0,.slice none 0 0],[.int .i64 10,.int .i64 0,.int .i64 0,.int .i64 0,.string ⟨#[]⟩,.slice none 0 0,.slice (some ⟨w.heap.size,0,none⟩) 1 1]] qA1.nodes rfl
  ⟨⟨_,_,rfl,SliceOf.nil _ _,SliceOf.nil _ _,⟨by unfold okI;dsimp only;omega,by unfold okI;dsimp only;omega,by unfold okI;dsimp only;omega,by unfold okI;dsimp only;omega⟩,(show (⟨#[114]⟩:ByteArray).size≤maxLen by decide)⟩,⟨_,_,rfl,SliceOf.nil _ _,a.ext xa.full,⟨by unfold okI;dsimp only;omega,by unfold okI;dsimp only;omega,by unfold okI;dsimp only;omega,by unfold okI;dsimp only;omega⟩,(show (⟨#[]⟩:ByteArray).size≤maxLen by decide)⟩,trivial⟩ (by simp [maxLen,qA1])
 have hz:(w.alloc (.cells #[.int .i64 1,.int .i64 0] 74)).heap.size=w.heap.size+1:=by simp
 rw [hz]at n
 exact⟨n.ext ((Ext.refl _).alloc _).full,⟨by go_simp,by go_simp⟩,(((Ext.refl w).alloc _).alloc _).alloc _⟩
theorem lit_q2 (w:World):SliceOf Rep.node (((w.alloc (.cells #[.int .i64 1,.int .i64 0,.int .i64 0,.int .i64 0,.string ⟨#[114]⟩,.slice none 0 0,.slice none 0 0,.int .i64 1,.int .i64 0,.int .i64 0,.int .i64 0,.string ⟨#[115]⟩,.slice none 0 0,.slice none 0 0,.int .i64 5,.int .i64 0,.int .i64 1,.int .i64 0,.string ⟨#[]⟩,.slice none 0 0,.slice none 0 0] 64)).alloc (.cells #[.int .i64 1,.int .i64 0,.int .i64 0,.int .i64 0,.int .i64 3,.int .i64 1,.string ⟨#[]⟩] 66)).alloc (.cells #[.slice (some ⟨w.heap.size,0,none⟩) 3 3,.slice (some ⟨w.heap.size+1,0,none⟩) 1 1] 25)).cell? (.slice (some ⟨w.heap.size,0,none⟩) 3 3) qA2.nodes∧SliceOf Rep.expr (((w.alloc (.cells #[.int .i64 1,.int .i64 0,.int .i64 0,.int .i64 0,.string ⟨#[114]⟩,.slice none 0 0,.slice none 0 0,.int .i64 1,.int .i64 0,.int .i64 0,.int .i64 0,.string ⟨#[115]⟩,.slice none 0 0,.slice none 0 0,.int .i64 5,.int .i64 0,.int .i64 1,.int .i64 0,.string ⟨#[]⟩,.slice none 0 0,.slice none 0 0] 64)).alloc (.cells #[.int .i64 1,.int .i64 0,.int .i64 0,.int .i64 0,.int .i64 3,.int .i64 1,.string ⟨#[]⟩] 66)).alloc (.cells #[.slice (some ⟨w.heap.size,0,none⟩) 3 3,.slice (some ⟨w.heap.size+1,0,none⟩) 1 1] 25)).cell? (.slice (some ⟨w.heap.size+1,0,none⟩) 1 1) qA2.exprs∧((((w.alloc (.cells #[.int .i64 1,.int .i64 0,.int .i64 0,.int .i64 0,.string ⟨#[114]⟩,.slice none 0 0,.slice none 0 0,.int .i64 1,.int .i64 0,.int .i64 0,.int .i64 0,.string ⟨#[115]⟩,.slice none 0 0,.slice none 0 0,.int .i64 5,.int .i64 0,.int .i64 1,.int .i64 0,.string ⟨#[]⟩,.slice none 0 0,.slice none 0 0] 64)).alloc (.cells #[.int .i64 1,.int .i64 0,.int .i64 0,.int .i64 0,.int .i64 3,.int .i64 1,.string ⟨#[]⟩] 66)).alloc (.cells #[.slice (some ⟨w.heap.size,0,none⟩) 3 3,.slice (some ⟨w.heap.size+1,0,none⟩) 1 1] 25)).cell? ⟨w.heap.size+1+1,0,none⟩=some (.slice (some ⟨w.heap.size,0,none⟩) 3 3)∧(((w.alloc (.cells #[.int .i64 1,.int .i64 0,.int .i64 0,.int .i64 0,.string ⟨#[114]⟩,.slice none 0 0,.slice none 0 0,.int .i64 1,.int .i64 0,.int .i64 0,.int .i64 0,.string ⟨#[115]⟩,.slice none 0 0,.slice none 0 0,.int .i64 5,.int .i64 0,.int .i64 1,.int .i64 0,.string ⟨#[]⟩,.slice none 0 0,.slice none 0 0] 64)).alloc (.cells #[.int .i64 1,.int .i64 0,.int .i64 0,.int .i64 0,.int .i64 3,.int .i64 1,.string ⟨#[]⟩] 66)).alloc (.cells #[.slice (some ⟨w.heap.size,0,none⟩) 3 3,.slice (some ⟨w.heap.size+1,0,none⟩) 1 1] 25)).cell? ⟨w.heap.size+1+1,1,none⟩=some (.slice (some ⟨w.heap.size+1,0,none⟩) 1 1))∧Ext w (((w.alloc (.cells #[.int .i64 1,.int .i64 0,.int .i64 0,.int .i64 0,.string ⟨#[114]⟩,.slice none 0 0,.slice none 0 0,.int .i64 1,.int .i64 0,.int .i64 0,.int .i64 0,.string ⟨#[115]⟩,.slice none 0 0,.slice none 0 0,.int .i64 5,.int .i64 0,.int .i64 1,.int .i64 0,.string ⟨#[]⟩,.slice none 0 0,.slice none 0 0] 64)).alloc (.cells #[.int .i64 1,.int .i64 0,.int .i64 0,.int .i64 0,.int .i64 3,.int .i64 1,.string ⟨#[]⟩] 66)).alloc (.cells #[.slice (some ⟨w.heap.size,0,none⟩) 3 3,.slice (some ⟨w.heap.size+1,0,none⟩) 1 1] 25)):=by
 have n:SliceOf Rep.node (w.alloc (.cells #[.int .i64 1,.int .i64 0,.int .i64 0,.int .i64 0,.string ⟨#[114]⟩,.slice none 0 0,.slice none 0 0,.int .i64 1,.int .i64 0,.int .i64 0,.int .i64 0,.string ⟨#[115]⟩,.slice none 0 0,.slice none 0 0,.int .i64 5,.int .i64 0,.int .i64 1,.int .i64 0,.string ⟨#[]⟩,.slice none 0 0,.slice none 0 0] 64)).cell? (.slice (some ⟨w.heap.size,0,none⟩) 3 3) qA2.nodes:=slice_lit Rep.node w [.int .i64 1,.int .i64 0,.int .i64 0,.int .i64 0,.string ⟨#[114]⟩,.slice none 0 0,.slice none 0 0,.int .i64 1,.int .i64 0,.int .i64 0,.int .i64 0,.string ⟨#[115]⟩,.slice none 0 0,.slice none 0 0,.int .i64 5,.int .i64 0,.int .i64 1,.int .i64 0,.string ⟨#[]⟩,.slice none 0 0,.slice none 0 0] 64 [[.int .i64 1,.int .i64 0,.int .i64 0,.int .i64 0,.string ⟨#[114]⟩,.slice none 0 0,.slice none 0 0],[.int .i64 1,.int .i64 0,.int .i64 0,.int .i64 0,.string ⟨#[115]⟩,.slice none 0 0,.slice none 0 0],[.int .i64 5,.int .i64 0,.int .i64 1,.int .i64 0,.string ⟨#[]⟩,.slice none 0 0,.slice none 0 0]] qA2.nodes rfl
  ⟨⟨_,_,rfl,SliceOf.nil _ _,SliceOf.nil _ _,⟨by unfold okI;dsimp only;omega,by unfold okI;dsimp only;omega,by unfold okI;dsimp only;omega,by unfold okI;dsimp only;omega⟩,(show (⟨#[114]⟩:ByteArray).size≤maxLen by decide)⟩,⟨_,_,rfl,SliceOf.nil _ _,SliceOf.nil _ _,⟨by unfold okI;dsimp only;omega,by unfold okI;dsimp only;omega,by unfold okI;dsimp only;omega,by unfold okI;dsimp only;omega⟩,(show (⟨#[115]⟩:ByteArray).size≤maxLen by decide)⟩,⟨_,_,rfl,SliceOf.nil _ _,SliceOf.nil _ _,⟨by unfold okI;dsimp only;omega,by unfold okI;dsimp only;omega,by unfold okI;dsimp only;omega,by unfold okI;dsimp only;omega⟩,(show (⟨#[]⟩:ByteArray).size≤maxLen by decide)⟩,trivial⟩ (by simp [maxLen,qA2])
 have e:SliceOf Rep.expr ((w.alloc (.cells #[.int .i64 1,.int .i64 0,.int .i64 0,.int .i64 0,.string ⟨#[114]⟩,.slice none 0 0,.slice none 0 0,.int .i64 1,.int .i64 0,.int .i64 0,.int .i64 0,.string ⟨#[115]⟩,.slice none 0 0,.slice none 0 0,.int .i64 5,.int .i64 0,.int .i64 1,.int .i64 0,.string ⟨#[]⟩,.slice none 0 0,.slice none 0 0] 64)).alloc (.cells #[.int .i64 1,.int .i64 0,.int .i64 0,.int .i64 0,.int .i64 3,.int .i64 1,.string ⟨#[]⟩] 66)).cell? (.slice (some ⟨(w.alloc (.cells #[.int .i64 1,.int .i64 0,.int .i64 0,.int .i64 0,.string ⟨#[114]⟩,.slice none 0 0,.slice none 0 0,.int .i64 1,.int .i64 0,.int .i64 0,.int .i64 0,.string ⟨#[115]⟩,.slice none 0 0,.slice none 0 0,.int .i64 5,.int .i64 0,.int .i64 1,.int .i64 0,.string ⟨#[]⟩,.slice none 0 0,.slice none 0 0] 64)).heap.size,0,none⟩) 1 1) qA2.exprs:=slice_lit Rep.expr (w.alloc (.cells #[.int .i64 1,.int .i64 0,.int .i64 0,.int .i64 0,.string ⟨#[114]⟩,.slice none 0 0,.slice none 0 0,.int .i64 1,.int .i64 0,.int .i64 0,.int .i64 0,.string ⟨#[115]⟩,.slice none 0 0,.slice none 0 0,.int .i64 5,.int .i64 0,.int .i64 1,.int .i64 0,.string ⟨#[]⟩,.slice none 0 0,.slice none 0 0] 64)) [.int .i64 1,.int .i64 0,.int .i64 0,.int .i64 0,.int .i64 3,.int .i64 1,.string ⟨#[]⟩] 66 [[.int .i64 1,.int .i64 0,.int .i64 0,.int .i64 0,.int .i64 3,.int .i64 1,.string ⟨#[]⟩]] qA2.exprs rfl
  ⟨⟨rfl,by unfold okI;dsimp only;omega,⟨by dsimp only;omega,by dsimp only;omega,Nat.zero_le _⟩⟩,trivial⟩ (by simp [maxLen,qA2])
 have hz:(w.alloc (.cells #[.int .i64 1,.int .i64 0,.int .i64 0,.int .i64 0,.string ⟨#[114]⟩,.slice none 0 0,.slice none 0 0,.int .i64 1,.int .i64 0,.int .i64 0,.int .i64 0,.string ⟨#[115]⟩,.slice none 0 0,.slice none 0 0,.int .i64 5,.int .i64 0,.int .i64 1,.int .i64 0,.string ⟨#[]⟩,.slice none 0 0,.slice none 0 0] 64)).heap.size=w.heap.size+1:=by simp
 rw [hz]at e
 exact⟨n.ext (((Ext.refl _).alloc _).alloc _).full,e.ext ((Ext.refl _).alloc _).full,⟨by go_simp,by go_simp⟩,(((Ext.refl w).alloc _).alloc _).alloc _⟩
theorem keepAw {w1 w w':World} {a b:Addr} {u v:Value} (h:Ext w1 w∧w.cell? a=some u∧w.cell? b=some v) (x:Ext w w'):Ext w1 w'∧w'.cell? a=some u∧w'.cell? b=some v:=⟨h.1.trans x,x.at h.2.1,x.at h.2.2⟩
theorem emptyB:ByteArray.empty=⟨#[]⟩:=rfl
theorem rowLitA {w4:World} {p:Option Addr} {c:Nat} {ga gb:Val} (s:SliceOf Rep.val w4.cell? (.slice p 2 c) [ga,gb]) :
  SliceOf Rep.row ((w4.alloc (.cells #[.int .i64 7] 3)).alloc (.cells #[.slice p 2 c,.slice (some ⟨w4.heap.size,0,none⟩) 1 1] 58)).cell? (.slice (some ⟨w4.heap.size+1,0,none⟩) 1 1) [⟨[ga,gb],[7]⟩]:=by
 have l:=slice_lit Rep.int w4 [.int .i64 7] 3 [[.int .i64 7]] [7] rfl ⟨⟨rfl,by omega⟩,trivial⟩ (by simp [maxLen])
 have hx:=((Ext.refl w4).alloc (.cells #[.int .i64 7] 3)).alloc (.cells #[.slice p 2 c,.slice (some ⟨w4.heap.size,0,none⟩) 1 1] 58)
 have a:SliceOf Rep.row ((w4.alloc (.cells #[.int .i64 7] 3)).alloc (.cells #[.slice p 2 c,.slice (some ⟨w4.heap.size,0,none⟩) 1 1] 58)).cell? (.slice (some ⟨(w4.alloc (.cells #[.int .i64 7] 3)).heap.size,0,none⟩) 1 1) [⟨[ga,gb],[7]⟩] :=
  slice_lit Rep.row (w4.alloc (.cells #[.int .i64 7] 3)) [.slice p 2 c,.slice (some ⟨w4.heap.size,0,none⟩) 1 1] 58 [[.slice p 2 c,.slice (some ⟨w4.heap.size,0,none⟩) 1 1]] [⟨[ga,gb],[7]⟩] rfl ⟨⟨_,_,rfl,s.ext hx.full,l.ext ((Ext.refl _).alloc _).full⟩,trivial⟩ (by simp [maxLen])
 rwa [show (w4.alloc (.cells #[.int .i64 7] 3)).heap.size=w4.heap.size+1 by simp]at a
theorem rowLitB {wl w4:World} {p:Option Addr} {c:Nat} {ga gb:Val} (x:Ext (wl.alloc (.cells #[.int .i64 7] 3)) w4) (s:SliceOf Rep.val w4.cell? (.slice p 2 c) [ga,gb]) :
  SliceOf Rep.row (w4.alloc (.cells #[.slice p 2 c,.slice (some ⟨wl.heap.size,0,none⟩) 1 1] 58)).cell? (.slice (some ⟨w4.heap.size,0,none⟩) 1 1) [⟨[ga,gb],[7]⟩]:=by
 have l:=slice_lit Rep.int wl [.int .i64 7] 3 [[.int .i64 7]] [7] rfl ⟨⟨rfl,by omega⟩,trivial⟩ (by simp [maxLen])
 have hx:=(Ext.refl w4).alloc (.cells #[.slice p 2 c,.slice (some ⟨wl.heap.size,0,none⟩) 1 1] 58)
 exact slice_lit Rep.row w4 [.slice p 2 c,.slice (some ⟨wl.heap.size,0,none⟩) 1 1] 58 [[.slice p 2 c,.slice (some ⟨wl.heap.size,0,none⟩) 1 1]] [⟨[ga,gb],[7]⟩] rfl ⟨⟨_,_,rfl,s.ext hx.full,l.ext (x.trans hx).full⟩,trivial⟩ (by simp [maxLen])
theorem keepAw8 {w1 w w':World} {a0 a1 a2 a3 a4 a5 a6 a7:Addr} {u0 u1 u2 u3 u4 u5 u6 u7:Value}
  (h:Ext w1 w∧w.cell? a0=some u0∧w.cell? a1=some u1∧w.cell? a2=some u2∧w.cell? a3=some u3∧w.cell? a4=some u4∧w.cell? a5=some u5∧w.cell? a6=some u6∧w.cell? a7=some u7) (x:Ext w w') :
  Ext w1 w'∧w'.cell? a0=some u0∧w'.cell? a1=some u1∧w'.cell? a2=some u2∧w'.cell? a3=some u3∧w'.cell? a4=some u4∧w'.cell? a5=some u5∧w'.cell? a6=some u6∧w'.cell? a7=some u7 :=
 ⟨h.1.trans x,x.at h.2.1,x.at h.2.2.1,x.at h.2.2.2.1,x.at h.2.2.2.2.1,x.at h.2.2.2.2.2.1,x.at h.2.2.2.2.2.2.1,x.at h.2.2.2.2.2.2.2.1,x.at h.2.2.2.2.2.2.2.2⟩
theorem keepAw2 {w1 w w':World} {a b:Addr} {u v:Value} {A B:Obj} (h:Ext w1 w∧w.cell? a=some u∧w.cell? b=some v) (x:Ext ((w.alloc A).alloc B) w'):Ext w1 w'∧w'.cell? a=some u∧w'.cell? b=some v:=keepAw (keepAw h (((Ext.refl _).alloc _).alloc _)) x
theorem keepAw1 {w1 w w':World} {a b:Addr} {u v:Value} {A:Obj} (h:Ext w1 w∧w.cell? a=some u∧w.cell? b=some v) (x:Ext (w.alloc A) w'):Ext w1 w'∧w'.cell? a=some u∧w'.cell? b=some v:=keepAw (keepAw h ((Ext.refl _).alloc _)) x
set_option maxRecDepth 100000 in
set_option maxHeartbeats 16000000 in
theorem awake_algebra (w:World) (ht:TabW w):Calls Tryz.prog 16 #[] w fun e w'=>e = .returned (.bool true)∧Ext w w':=by
 have HT:=Lib.hid ht
 clear ht
 go_enter Tryz.func16,Tryz.ntmps16
 go_wp2_with fail
 obtain⟨n1,⟨c0,c1⟩,x1⟩:=lit_q1 w
 obtain⟨b,hb⟩ : ∃z,z=w.heap.size+1+1:=⟨_,rfl⟩
 obtain⟨bn,hbn⟩ : ∃z,z=w.heap.size+1:=⟨_,rfl⟩
 obtain⟨w1,hw1⟩ : ∃z,z=((w.alloc (.cells #[.int .i64 1,.int .i64 0] 74)).alloc (.cells #[.int .i64 1,.int .i64 0,.int .i64 0,.int .i64 0,.string ⟨#[114]⟩,.slice none 0 0,.slice none 0 0,.int .i64 10,.int .i64 0,.int .i64 0,.int .i64 0,.string ⟨#[]⟩,.slice none 0 0,.slice (some ⟨w.heap.size,0,none⟩) 1 1] 64)).alloc (.cells #[.slice (some ⟨w.heap.size+1,0,none⟩) 2 2,.slice none 0 0] 25):=⟨_,rfl⟩
 rw [←hw1]at n1 c0 c1 x1 ⊢
 rw [←hb]at c0 c1 ⊢
 rw [←hbn]at n1 c0 ⊢
 clear hw1 hb hbn
 have NN:=Lib.hid n1
 have X1:=Lib.hid x1
 have e0:=cell_lt c0
 clear n1 x1
 have hS0:Ext w1 w1.drew∧w1.drew.cell? ⟨b,0,none⟩=some (.slice (some ⟨bn,0,none⟩) 2 2)∧w1.drew.cell? ⟨b,1,none⟩=some (.slice none 0 0):=⟨(Ext.refl _).drew,(Ext.refl _).drew.at c0,(Ext.refl _).drew.at c1⟩
 go_region_held3 (fun w'=>Ext w1 w'∧w'.cell? ⟨b,0,none⟩=some (.slice (some ⟨bn,0,none⟩) 2 2)∧w'.cell? ⟨b,1,none⟩=some (.slice none 0 0))
  (first |with_reducible assumption | with_reducible exact K3 | with_reducible exact K2)
  (first
   |(go_at_call 25;refine(rowdb_any _ _ [] [] _ (SliceOf.nil _ _) (SliceOf.nil _ _)).mono ?_;rintro e w2 ⟨v2,rfl,s2,x2⟩;have K2:=keepAw hS0 x2;have S2:=Lib.hid s2)
   |(go_at_call 21;refine(eval_query qA1 (dbA [] []) _ _ _ _ (NN.out.ext K2.1.full) (SliceOf.nil _ _) S2.out (by simp [dbA]) fitQA1 fitA1 (HT.out.ext (X1.out.trans K2.1))).mono ?_;rintro e w3 ⟨v3,rfl,s3,x3⟩;have K3:=keepAw K2 x3;have S3:=Lib.hid s3)
   |fail)
 clear hS0
 have X3:=Lib.hid (X1.out.trans K3.1)
 clear K2 K3 S2 s2 x2 NN c0 c1 e0 X1 S3
 rw [evalA1]at s3 ⊢
 obtain⟨p3,k3,rfl,-,-,h3⟩:=s3.form
 obtain⟨b3,o3,rfl⟩:=h3 (by decide) (by simp)
 have HL:=Lib.hid s3
 clear s3 h3
 dsimp only at HL ⊢
 have hl1:([⟨[intVal 0],[]⟩]:List Row).length=1:=rfl
 rw [hl1]at HL ⊢
 clear hl1
 go_wp2_with fail
 obtain⟨n1,e1,⟨c0,c1⟩,x1⟩:=lit_q2 w3
 obtain⟨b2,hb⟩ : ∃z,z=w3.heap.size+1+1:=⟨_,rfl⟩
 obtain⟨be,hbe⟩ : ∃z,z=w3.heap.size+1:=⟨_,rfl⟩
 obtain⟨bn2,hbn⟩ : ∃z,z=w3.heap.size:=⟨_,rfl⟩
 obtain⟨w4,hw4⟩ : ∃z,z=((w3.alloc (.cells #[.int .i64 1,.int .i64 0,.int .i64 0,.int .i64 0,.string ⟨#[114]⟩,.slice none 0 0,.slice none 0 0,.int .i64 1,.int .i64 0,.int .i64 0,.int .i64 0,.string ⟨#[115]⟩,.slice none 0 0,.slice none 0 0,.int .i64 5,.int .i64 0,.int .i64 1,.int .i64 0,.string ⟨#[]⟩,.slice none 0 0,.slice none 0 0] 64)).alloc (.cells #[.int .i64 1,.int .i64 0,.int .i64 0,.int .i64 0,.int .i64 3,.int .i64 1,.string ⟨#[]⟩] 66)).alloc (.cells #[.slice (some ⟨w3.heap.size,0,none⟩) 3 3,.slice (some ⟨w3.heap.size+1,0,none⟩) 1 1] 25):=⟨_,rfl⟩
 rw [←hw4]at n1 e1 c0 c1 x1 ⊢
 rw [←hb]at c0 c1 ⊢
 rw [←hbe]at e1 c1 ⊢
 rw [←hbn]at n1 c0 ⊢
 clear hw4 hb hbe hbn
 have NN:=Lib.hid n1
 have EE:=Lib.hid e1
 have X4:=Lib.hid (X3.out.trans x1)
 have HL4:=Lib.hid (HL.out.ext x1.full)
 have e0:=cell_lt c0
 clear n1 e1 x1 HL X3
 have hS0:Ext w4 w4.drew∧w4.drew.cell? ⟨b2,0,none⟩=some (.slice (some ⟨bn2,0,none⟩) 3 3)∧w4.drew.cell? ⟨b2,1,none⟩=some (.slice (some ⟨be,0,none⟩) 1 1):=⟨(Ext.refl _).drew,(Ext.refl _).drew.at c0,(Ext.refl _).drew.at c1⟩
 have hB0:Ext w4 (w4.alloc (.cells #[.int .i64 7] 3)).drew∧(w4.alloc (.cells #[.int .i64 7] 3)).drew.cell? ⟨b2,0,none⟩=some (.slice (some ⟨bn2,0,none⟩) 3 3)∧(w4.alloc (.cells #[.int .i64 7] 3)).drew.cell? ⟨b2,1,none⟩=some (.slice (some ⟨be,0,none⟩) 1 1):=keepAw ⟨Ext.refl w4,c0,c1⟩ ((Ext.refl _).alloc _).drew
 go_region_held3 (fun w'=>Ext w4 w'∧w'.cell? ⟨b2,0,none⟩=some (.slice (some ⟨bn2,0,none⟩) 3 3)∧w'.cell? ⟨b2,1,none⟩=some (.slice (some ⟨be,0,none⟩) 1 1))
  (first |with_reducible assumption | with_reducible exact K7 | with_reducible exact K6 | with_reducible exact K5 | with_reducible exact keepAw K5 ((Ext.refl _).alloc _) | with_reducible exact keepAw K5 (((Ext.refl _).alloc _).alloc _) | with_reducible exact keepAw hS0 ((Ext.refl _).alloc _))
  (first
   |(go_at_call 49;refine(vals_gen 0 0 _ (by omega) (by omega) (by omega) (by omega)).mono ?_;rintro e w5 ⟨v5,rfl,s5,x5⟩;have K5:=keepAw hS0 x5;replace s5:=s5.ext (on_sub _ _);obtain⟨g,hg⟩ : ∃g,g=genVals 0 0:=⟨_,rfl⟩;rw [←hg]at s5;obtain⟨ga,gb,hgg⟩ : ∃a b,g = [a,b]:=⟨_,_,hg⟩;have hgf:=genV_few 0 0;rw [←hg]at hgf;subst hgg;obtain⟨p5,k5,rfl,-⟩:=s5.form;have hl5:([ga,gb]:List Val).length=2:=rfl;rw [hl5]at s5 ⊢;have S5:=Lib.hid (show SliceOf Rep.row _ _ [⟨[ga,gb],[7]⟩]from rowLitA s5);have HGF:=Lib.hid hgf;clear s5 hl5 hgf hg)
   |(go_at_call 49;refine(vals_gen 0 0 _ (by omega) (by omega) (by omega) (by omega)).mono ?_;rintro e w5 ⟨v5,rfl,s5,x5⟩;have K5:=keepAw hB0 x5;replace s5:=s5.ext (on_sub _ _);obtain⟨g,hg⟩ : ∃g,g=genVals 0 0:=⟨_,rfl⟩;rw [←hg]at s5;obtain⟨ga,gb,hgg⟩ : ∃a b,g = [a,b]:=⟨_,_,hg⟩;have hgf:=genV_few 0 0;rw [←hg]at hgf;subst hgg;obtain⟨p5,k5,rfl,-⟩:=s5.form;have hl5:([ga,gb]:List Val).length=2:=rfl;rw [hl5]at s5 ⊢;have S5:=Lib.hid (show SliceOf Rep.row _ _ [⟨[ga,gb],[7]⟩]from rowLitB ((Ext.refl _).drew.trans x5) s5);have HGF:=Lib.hid hgf;clear s5 hl5 hgf hg)
   |(go_at_call 25;refine(rowdb_any _ _ [⟨[ga,gb],[7]⟩] [] _ S5.out (SliceOf.nil _ _)).mono ?_;rintro e w6 ⟨v6,rfl,s6,x6⟩;have K6:=keepAw2 K5 x6;have S6:=Lib.hid s6;clear s6)
   |(go_at_call 25;refine(rowdb_any _ _ [⟨[ga,gb],[7]⟩] [] _ S5.out (SliceOf.nil _ _)).mono ?_;rintro e w6 ⟨v6,rfl,s6,x6⟩;have K6:=keepAw1 K5 x6;have S6:=Lib.hid s6;clear s6)
   |(go_at_call 21;refine(eval_query qA2 (dbA [⟨[ga,gb],[7]⟩] []) _ _ _ _ (NN.out.ext K6.1.full) (EE.out.ext K6.1.full) S6.out (by simp [dbA]) fitQA2 (fitA2 _ HGF.out) (HT.out.ext (X4.out.trans K6.1))).mono ?_;rintro e w7 ⟨v7,rfl,s7,x7⟩;have K7:=keepAw K6 x7;have S7:=Lib.hid s7;clear s7)
   |fail)
 all_goals
  have s7:=S7.out
  rw [evalA2]at s7 ⊢
  obtain⟨p7,k7,rfl,-,-,h7⟩:=s7.form
  obtain⟨b7,o7,rfl⟩:=h7 (by decide) (by simp)
  dsimp only at s7 ⊢
  have hl7:([⟨[ga,gb] ++ [nV,nV],[7]⟩]:List Row).length=1:=rfl
  rw [hl7]at s7 ⊢
  have HM:=Lib.hid s7
  have HL:=Lib.hid (HL4.out.ext K7.1.full)
  have X7:=Lib.hid (X4.out.trans K7.1)
  have N7:=Lib.hid (NN.out.ext K7.1.full)
  have E7:=Lib.hid (EE.out.ext K7.1.full)
  have q0:=K7.2.1
  have q1:=K7.2.2
  have e7:=cell_lt q0
  clear hS0 hB0 K5 K6 K7 x7 x6 x5 S5 S6 S7 HGF NN EE X4 HL4 c0 c1 e0 s7 h7 hl7
  go_wp2_with fail
  refine(check_any qA2 [] _ _ _ _ N7.out E7.out (SliceOf.nil _ _) (by simp) (fun x hx=>⟨Nat.le_trans (fitQA2.2 x hx).1 (by decide),Nat.le_trans (fitQA2.2 x hx).2 (by decide)⟩)).mono ?_
  rintro e w8 ⟨v8,rfl,s8,x8⟩
  rw [checkA2]
  clear s8 q0 q1 e7 N7 E7
  have X8:=Lib.hid (X7.out.trans x8)
  obtain⟨la,lb,a0,a1,sa,ai⟩:=row_at (HL.out.ext x8.full) 0 (by simp)
  obtain⟨ma,mb,d0,d1,ds,di⟩:=row_at (HM.out.ext x8.full) 0 (by simp)
  simp only [Nat.zero_mul,Nat.add_zero,List.getElem_cons_zero,List.cons_append,List.nil_append]at a0 d0 sa ds
  obtain⟨pa,ka,rfl,-,-,ha⟩:=sa.form
  obtain⟨ba,oa,rfl⟩:=ha (by decide) (by simp)
  obtain⟨pm,km,rfl,-,-,hm⟩:=ds.form
  obtain⟨bm,om,rfl⟩:=hm (by decide) (by simp)
  have hla:([intVal 0]:List Val).length=1:=rfl
  have hlm:([ga,gb,nV,nV]:List Val).length=4:=rfl
  rw [hla]at a0 sa
  rw [hlm]at d0 ds
  obtain⟨f0,f1,f2,-⟩:=val_cells sa 0 (by simp)
  obtain⟨g0,g1,g2,-⟩:=val_cells ds 3 (by simp)
  simp only [Nat.zero_mul,Nat.add_zero,List.getElem_cons_zero,List.getElem_cons_succ,intVal,nV,Nat.reduceMul,emptyB]at f0 f1 f2 g0 g1 g2
  have e1:=cell_lt a0
  have e2:=cell_lt d0
  have e3:=cell_lt f0
  have e4:=cell_lt g0
  clear x8 sa ds ai di a1 d1 ha hm hla hlm HL HM X7
  go_wp2_with fail
  have hS0:Ext w8 w8.drew∧w8.drew.cell? ⟨b3,o3,none⟩=some (.slice (some ⟨ba,oa,none⟩) 1 ka)∧w8.drew.cell? ⟨ba,oa,none⟩=some (.int .i64 1)∧w8.drew.cell? ⟨ba,oa+1,none⟩=some (.int .i64 0)∧w8.drew.cell? ⟨ba,oa+2,none⟩=some (.string ⟨#[]⟩)∧w8.drew.cell? ⟨b7,o7,none⟩=some (.slice (some ⟨bm,om,none⟩) 4 km)∧w8.drew.cell? ⟨bm,om+9,none⟩=some (.int .i64 0)∧w8.drew.cell? ⟨bm,om+9+1,none⟩=some (.int .i64 0)∧w8.drew.cell? ⟨bm,om+9+2,none⟩=some (.string ⟨#[]⟩):=keepAw8 ⟨Ext.refl w8,a0,f0,f1,f2,d0,g0,g1,g2⟩ (Ext.refl w8).drew
  go_region_held3 (fun w'=>Ext w8 w'∧w'.cell? ⟨b3,o3,none⟩=some (.slice (some ⟨ba,oa,none⟩) 1 ka)∧w'.cell? ⟨ba,oa,none⟩=some (.int .i64 1)∧w'.cell? ⟨ba,oa+1,none⟩=some (.int .i64 0)∧w'.cell? ⟨ba,oa+2,none⟩=some (.string ⟨#[]⟩)∧w'.cell? ⟨b7,o7,none⟩=some (.slice (some ⟨bm,om,none⟩) 4 km)∧w'.cell? ⟨bm,om+9,none⟩=some (.int .i64 0)∧w'.cell? ⟨bm,om+9+1,none⟩=some (.int .i64 0)∧w'.cell? ⟨bm,om+9+2,none⟩=some (.string ⟨#[]⟩))
   (first |with_reducible assumption | with_reducible exact K9)
   (first
    |(go_at_call 32;refine(int_value 0 _).mono ?_;rintro e w9 ⟨rfl,x9⟩;have K9:=keepAw8 hS0 x9;simp only [valV,intVal,emptyB])
    |fail)
  all_goals
   go_wp2_with fail
   go_ret
   exact⟨rfl,X8.out.trans K9.1⟩
end Go.Proofs.YtombmdaohcjokaaGreatDoor
namespace Go.Proofs.YtombmdaohcjokaaGreatDoor
open Go.RowKit
theorem infoNode:(Tryz.prog.info? 64).map (fun i=>(i.zero,i.size,i.bytes))=some (some (.agg #[.int .i64 0,.int .i64 0,.int .i64 0,.int .i64 0,.string ByteArray.empty,.slice none 0 0,.slice none 0 0]),Rep.node.size,96):=by kernel_rfl
theorem OwnOf.litS {α:Type} {R:Rep α} (w:World) (S:Nat→Prop) (cells:List Value) (T:TypeId) (css:List (List Value)) (xs:List α) (hc:css.flatten=cells) (h : ∀hw,RepAll R hw css xs) (hl:xs.length≤maxLen) :
  OwnOf R (w.alloc (.cells cells.toArray T)) S w.heap.size T (.slice (some ⟨w.heap.size,0,none⟩) xs.length xs.length) xs:=by
 refine⟨css,h _,?_⟩
 have:=World.ownsRow_lit (base:=w.heap.size) (e:=T) (size:=R.size) w cells.toArray xs.length (Nat.le_refl _) hl (by rw [List.size_toArray,←hc,(h w.cell?).flat])
 rw [hc]
 simpa using this
theorem OwnOf.chgS {α:Type} {R:Rep α} {C:Nat→Prop} {w w':World} {S:Nat→Prop} {base:Nat} {e:TypeId} {v:Value} {xs:List α} (h:OwnOf R w S base e v xs) (hx:Chg C w w') (hn : ∀k,v.ownBlock=some k→ ¬C k) (hS : ∀k,S k→ ¬C k):OwnOf R w' S base e v xs:=by
 obtain⟨css,h1,h2⟩:=h
 exact⟨css,h1.ext fun p u e=>on_some.2 ⟨(on_some.1 e).1,hx.at (on_some.1 e).2 (hS _ (on_some.1 e).1.2)⟩,hx.own h2 hn⟩
theorem full_row (wr:World) (v:Value) (hv : ∀k,v.ownBlock=some k→k<wr.heap.size) :
  Rep.row.holds (on (((wr.alloc (.cells #[.int .i64 0,.int .i64 0,.string ⟨#[]⟩] 61)).alloc (.cells #[.int .i64 1] 3)).alloc (.cells #[.slice (some ⟨wr.heap.size,0,none⟩) 1 1,.slice (some ⟨wr.heap.size+1,0,none⟩) 1 1] 58)) (avoid (fun _=>True) v)) [.slice (some ⟨wr.heap.size,0,none⟩) 1 1,.slice (some ⟨wr.heap.size+1,0,none⟩) 1 1] (fullR 1):=by
 have a:=lit_new (R:=Rep.val) wr [.int .i64 0,.int .i64 0,.string ⟨#[]⟩] 61 [[.int .i64 0,.int .i64 0,.string ⟨#[]⟩]] [nV] rfl (fun _=>⟨⟨rfl,by decide⟩,trivial⟩) (by simp [maxLen]) hv
 have b:=lit_new (R:=Rep.int) (wr.alloc (.cells #[.int .i64 0,.int .i64 0,.string ⟨#[]⟩] 61)) [.int .i64 1] 3 [[.int .i64 1]] [1] rfl (fun _=>⟨⟨rfl,by omega⟩,trivial⟩) (by simp [maxLen]) (v:=v) (fun k hk=>by have:=hv k hk;simp;omega)
 rw [show (wr.alloc (.cells #[.int .i64 0,.int .i64 0,.string ⟨#[]⟩] 61)).heap.size=wr.heap.size+1 by simp]at b
 exact⟨_,_,rfl,a.ext ((((Ext.refl _).alloc _).alloc _).sub _),b.ext (((Ext.refl _).alloc _).sub _)⟩
theorem lit_at {α:Type} {R:Rep α} (w:World) (cells:List Value) (T:TypeId) (css:List (List Value)) (xs:List α) (hc:css.flatten=cells) (h : ∀hw,RepAll R hw css xs) (hl:xs.length≤maxLen) :
  SliceOf R (on (w.alloc (.cells cells.toArray T)) (fun b=>b=w.heap.size)) (.slice (some ⟨w.heap.size,0,none⟩) xs.length xs.length) xs:=by
 refine⟨css,h _,.inr ⟨_,_,rfl,Nat.le_refl _,hl,.inr ⟨_,0,rfl,fun j u hj=>on_some.2 ⟨rfl,?_⟩⟩⟩⟩
 rw [World.cell?_alloc_at _ _ _ _ rfl]
 rw [hc]at hj
 simpa using hj
theorem lit_q3 (w:World) (k:Nat):((((w.alloc (.cells #[.int .i64 1,.int .i64 0,.int .i64 0,.int .i64 0,.string ⟨#[84]⟩,.slice none 0 0,.slice none 0 0] 64)).alloc (.cells #[.int .i64 1,.int .i64 0,.int .i64 0,.int .i64 0,.int .i64 3,.int .i64 1,.string ⟨#[]⟩] 66)).alloc (.cells #[.slice (some ⟨w.heap.size,0,none⟩) 1 1,.slice (some ⟨w.heap.size+1,0,none⟩) 1 1] 25)).cell? ⟨w.heap.size+1+1,0,none⟩=some (.slice (some ⟨w.heap.size,0,none⟩) 1 1)∧(((w.alloc (.cells #[.int .i64 1,.int .i64 0,.int .i64 0,.int .i64 0,.string ⟨#[84]⟩,.slice none 0 0,.slice none 0 0] 64)).alloc (.cells #[.int .i64 1,.int .i64 0,.int .i64 0,.int .i64 0,.int .i64 3,.int .i64 1,.string ⟨#[]⟩] 66)).alloc (.cells #[.slice (some ⟨w.heap.size,0,none⟩) 1 1,.slice (some ⟨w.heap.size+1,0,none⟩) 1 1] 25)).frozen? ⟨w.heap.size+1+1,0,none⟩=false∧(((w.alloc (.cells #[.int .i64 1,.int .i64 0,.int .i64 0,.int .i64 0,.string ⟨#[84]⟩,.slice none 0 0,.slice none 0 0] 64)).alloc (.cells #[.int .i64 1,.int .i64 0,.int .i64 0,.int .i64 0,.int .i64 3,.int .i64 1,.string ⟨#[]⟩] 66)).alloc (.cells #[.slice (some ⟨w.heap.size,0,none⟩) 1 1,.slice (some ⟨w.heap.size+1,0,none⟩) 1 1] 25)).cell? ⟨w.heap.size+1+1,1,none⟩=some (.slice (some ⟨w.heap.size+1,0,none⟩) 1 1)) ∧
  OwnOf Rep.node (((w.alloc (.cells #[.int .i64 1,.int .i64 0,.int .i64 0,.int .i64 0,.string ⟨#[84]⟩,.slice none 0 0,.slice none 0 0] 64)).alloc (.cells #[.int .i64 1,.int .i64 0,.int .i64 0,.int .i64 0,.int .i64 3,.int .i64 1,.string ⟨#[]⟩] 66)).alloc (.cells #[.slice (some ⟨w.heap.size,0,none⟩) 1 1,.slice (some ⟨w.heap.size+1,0,none⟩) 1 1] 25)) (fun b=>b≠w.heap.size+1+1) w.heap.size 64 (.slice (some ⟨w.heap.size,0,none⟩) 1 1) (fullQ 0).nodes∧SliceOf Rep.expr (on (((w.alloc (.cells #[.int .i64 1,.int .i64 0,.int .i64 0,.int .i64 0,.string ⟨#[84]⟩,.slice none 0 0,.slice none 0 0] 64)).alloc (.cells #[.int .i64 1,.int .i64 0,.int .i64 0,.int .i64 0,.int .i64 3,.int .i64 1,.string ⟨#[]⟩] 66)).alloc (.cells #[.slice (some ⟨w.heap.size,0,none⟩) 1 1,.slice (some ⟨w.heap.size+1,0,none⟩) 1 1] 25)) (fun b=>b=w.heap.size+1)) (.slice (some ⟨w.heap.size+1,0,none⟩) 1 1) (fullQ k).exprs∧Ext w (((w.alloc (.cells #[.int .i64 1,.int .i64 0,.int .i64 0,.int .i64 0,.string ⟨#[84]⟩,.slice none 0 0,.slice none 0 0] 64)).alloc (.cells #[.int .i64 1,.int .i64 0,.int .i64 0,.int .i64 0,.int .i64 3,.int .i64 1,.string ⟨#[]⟩] 66)).alloc (.cells #[.slice (some ⟨w.heap.size,0,none⟩) 1 1,.slice (some ⟨w.heap.size+1,0,none⟩) 1 1] 25))∧(((w.alloc (.cells #[.int .i64 1,.int .i64 0,.int .i64 0,.int .i64 0,.string ⟨#[84]⟩,.slice none 0 0,.slice none 0 0] 64)).alloc (.cells #[.int .i64 1,.int .i64 0,.int .i64 0,.int .i64 0,.int .i64 3,.int .i64 1,.string ⟨#[]⟩] 66)).alloc (.cells #[.slice (some ⟨w.heap.size,0,none⟩) 1 1,.slice (some ⟨w.heap.size+1,0,none⟩) 1 1] 25)).heap.size=w.heap.size+3:=by
 have n:OwnOf Rep.node (w.alloc (.cells #[.int .i64 1,.int .i64 0,.int .i64 0,.int .i64 0,.string ⟨#[84]⟩,.slice none 0 0,.slice none 0 0] 64)) (fun b=>b≠w.heap.size+1+1) w.heap.size 64 (.slice (some ⟨w.heap.size,0,none⟩) 1 1) (fullQ 0).nodes:=OwnOf.litS w _ [.int .i64 1,.int .i64 0,.int .i64 0,.int .i64 0,.string ⟨#[84]⟩,.slice none 0 0,.slice none 0 0] 64 [[.int .i64 1,.int .i64 0,.int .i64 0,.int .i64 0,.string ⟨#[84]⟩,.slice none 0 0,.slice none 0 0]] (fullQ 0).nodes rfl
  (fun _=>⟨⟨_,_,rfl,SliceOf.nil _ _,SliceOf.nil _ _,⟨by unfold okI;dsimp only;omega,by unfold okI;dsimp only;omega,by unfold okI;dsimp only;omega,by unfold okI;dsimp only;omega⟩,(show (⟨#[84]⟩:ByteArray).size≤maxLen by decide)⟩,trivial⟩) (by simp [maxLen,fullQ])
 have e:SliceOf Rep.expr (on ((w.alloc (.cells #[.int .i64 1,.int .i64 0,.int .i64 0,.int .i64 0,.string ⟨#[84]⟩,.slice none 0 0,.slice none 0 0] 64)).alloc (.cells #[.int .i64 1,.int .i64 0,.int .i64 0,.int .i64 0,.int .i64 3,.int .i64 1,.string ⟨#[]⟩] 66)) (fun b=>b=(w.alloc (.cells #[.int .i64 1,.int .i64 0,.int .i64 0,.int .i64 0,.string ⟨#[84]⟩,.slice none 0 0,.slice none 0 0] 64)).heap.size)) (.slice (some ⟨(w.alloc (.cells #[.int .i64 1,.int .i64 0,.int .i64 0,.int .i64 0,.string ⟨#[84]⟩,.slice none 0 0,.slice none 0 0] 64)).heap.size,0,none⟩) 1 1) (fullQ k).exprs:=lit_at (w.alloc (.cells #[.int .i64 1,.int .i64 0,.int .i64 0,.int .i64 0,.string ⟨#[84]⟩,.slice none 0 0,.slice none 0 0] 64)) [.int .i64 1,.int .i64 0,.int .i64 0,.int .i64 0,.int .i64 3,.int .i64 1,.string ⟨#[]⟩] 66 [[.int .i64 1,.int .i64 0,.int .i64 0,.int .i64 0,.int .i64 3,.int .i64 1,.string ⟨#[]⟩]] (fullQ k).exprs rfl
  (fun _=>⟨⟨rfl,by unfold okI;dsimp only;omega,⟨by dsimp only;omega,by dsimp only;omega,Nat.zero_le _⟩⟩,trivial⟩) (by simp [maxLen,fullQ])
 rw [show (w.alloc (.cells #[.int .i64 1,.int .i64 0,.int .i64 0,.int .i64 0,.string ⟨#[84]⟩,.slice none 0 0,.slice none 0 0] 64)).heap.size=w.heap.size+1 by simp]at e
 exact⟨⟨by go_simp,by go_simp,by go_simp⟩,(n.ext ((Ext.refl _).alloc _)).ext ((Ext.refl _).alloc _),e.ext (((Ext.refl _).alloc _).sub _),(((Ext.refl w).alloc _).alloc _).alloc _,by simp⟩
theorem fullN_app (a:Nat):(fullQ (a+1)).nodes=(fullQ a).nodes ++ [fullN a]:=by
 simp [fullQ,List.range_succ]
theorem full_step (m i:Nat):(decide (4096<m ^ (i+1))||decide (4096<m ^ (i+1+1)))=decide (4096<m ^ (i+1+1)):=by
 by_cases h:4096<m ^ (i+1)
 ·have:=pow_up m i (i+1) (by omega) h
  simp [h,this]
 ·simp [h]
theorem full_pow (m i:Nat) (hm:m≤9) (hi:i≤5):m ^ i≤59049:=by
 refine Nat.le_trans (Nat.pow_le_pow_left hm i) (Nat.le_trans (Nat.pow_le_pow_right (by omega) hi) (by decide))
set_option maxRecDepth 100000 in
set_option maxHeartbeats 4000000 in
theorem AlgebraFull_walk (n r:Int) {w:World} (hn:(Lit.int .u8 n).wf=true) (hr:(Lit.int .u8 r).wf=true) (hT:TabW w) :
  Calls Tryz.prog 8 #[.int .u8 n,.int .u8 r] w fun e w'=>e = .returned (.bool true)∧Ext w w':=by
 obtain⟨i0,hi,hz0,hz1,hz2⟩:=info_parts infoRow
 obtain⟨i2,hi2,hz20,hz21,hz22⟩:=info_parts infoNode
 have HT:=Lib.hid hT
 have hn0:0≤n∧n≤255:=by simpa [Lit.wf,IntKind.min,IntKind.max,IntKind.signed,IntKind.bits] using hn
 have hr0:0≤r∧r≤255:=by simpa [Lit.wf,IntKind.min,IntKind.max,IntKind.signed,IntKind.bits] using hr
 obtain⟨k,hk,hk2⟩ : ∃k:Nat,n.tmod 5=(k:Int)∧k≤4:=⟨(n.tmod 5).toNat,by rw [Int.tmod_eq_emod_of_nonneg hn0.1];omega,by rw [Int.tmod_eq_emod_of_nonneg hn0.1];omega⟩
 obtain⟨m,hm,hm2⟩ : ∃m:Nat,r.tmod 10=(m:Int)∧m≤9:=⟨(r.tmod 10).toNat,by rw [Int.tmod_eq_emod_of_nonneg hr0.1];omega,by rw [Int.tmod_eq_emod_of_nonneg hr0.1];omega⟩
 clear hn hr hT
 go_enter Tryz.func8,Tryz.ntmps8
 go_wp2_with fail
 go_loopg [7,8] m (fun gk out i wr=> ∃j:Nat,j≤m∧gk=m - j∧i = .int .i64 j∧OwnOf Rep.row wr (fun _=>True) w.heap.size 58 out (List.replicate j (fullR 1))∧Ext w wr)
 case atStart=>exact⟨0,by omega,rfl,rfl,OwnOf.nil _ _ _ _ _,Ext.refl w⟩
 case round =>
  obtain⟨j,hj,rfl,rfl,hown,hx⟩:=hrel
  by_cases hlt:j<m
  ·have hd:decide ((j:Int)<(m:Int))=true:=by simp;omega
   have HO:=Lib.hid hown
   have hbs:=hx.size
   have hjl:(List.replicate j (fullR 1)).length=j:=List.length_replicate
   have HJL:=Lib.hid hjl
   clear hown hjl
   go_wp2_with (at_builtin;refine wpList_append_one Rep.row (fun _=>True) rfl _ _ 40 rfl w.heap.size 58 i0 _ 48 Tryz.underlying40 hi hz0 hz1 hz2 rfl (by decide) _ (List.replicate j (fullR 1)) rfl (((HO.out.ext ((Ext.refl _).alloc _)).ext ((Ext.refl _).alloc _)).ext ((Ext.refl _).alloc _)) ⟨wr.heap.size+1+1,0,none⟩ 1 (fullR 1) [.slice (some ⟨wr.heap.size,0,none⟩) 1 1,.slice (some ⟨wr.heap.size+1,0,none⟩) 1 1] rfl ?c1 ?c2 ?c3 ?c4 ?c5 ?_)
   case c1=>exact full_row wr _ (fun k hk=>(HO.out.lt k hk).2)
   case c2=>first | exact cells_new _ [.slice (some ⟨wr.heap.size,0,none⟩) 1 1,.slice (some ⟨wr.heap.size+1,0,none⟩) 1 1] _ | simpa using cells_new ((wr.alloc (.cells #[.int .i64 0,.int .i64 0,.string ⟨#[]⟩] 61)).alloc (.cells #[.int .i64 1] 3)) [.slice (some ⟨wr.heap.size,0,none⟩) 1 1,.slice (some ⟨wr.heap.size+1,0,none⟩) 1 1] 58
   case c3=>rw [HJL.out];unfold maxLen;omega
   case c4=>rw [HJL.out];omega
   case c5=>simp;omega
   intro g cap w3 hown3 hgr _
   go_wp2_with fail
   go_roundg (m - (j+1))
   case measure=>omega
   case rel =>
    refine⟨j+1,by omega,rfl,by go_num,by rw [List.replicate_succ'];exact hown3,?_⟩
    exact Below.grown (((hx.alloc _).alloc _).alloc _) hgr (by simp;omega) (fun j hj=>(HO.out.lt j hj).1)
  ·have hjm:j=m:=by omega
   subst hjm
   have hd:decide ((j:Int)<(j:Int))=false:=by simp
   have hs:=hown.slice
   obtain⟨px,cx,rfl,-⟩:=hs.form
   rw [List.length_replicate]at hs ⊢
   have HXX:=Lib.hid hs
   have X1:=Lib.hid hx
   clear hown hs hx
   go_wp2_with fail
   obtain⟨wo,rfl⟩ : ∃z,z=wr:=⟨wr,rfl⟩
   obtain⟨⟨c0,c1,c2⟩,own,ex,x3,hz⟩:=lit_q3 wo k
   obtain⟨NB,hnb⟩ : ∃z,z=wo.heap.size+1+1:=⟨_,rfl⟩
   obtain⟨be,hbe⟩ : ∃z,z=wo.heap.size+1:=⟨_,rfl⟩
   obtain⟨bn,hbn⟩ : ∃z,z=wo.heap.size:=⟨_,rfl⟩
   obtain⟨W3,hW3⟩ : ∃z,z=(((wo.alloc (.cells #[.int .i64 1,.int .i64 0,.int .i64 0,.int .i64 0,.string ⟨#[84]⟩,.slice none 0 0,.slice none 0 0] 64)).alloc (.cells #[.int .i64 1,.int .i64 0,.int .i64 0,.int .i64 0,.int .i64 3,.int .i64 1,.string ⟨#[]⟩] 66)).alloc (.cells #[.slice (some ⟨wo.heap.size,0,none⟩) 1 1,.slice (some ⟨wo.heap.size+1,0,none⟩) 1 1] 25)):=⟨_,rfl⟩
   rw [←hW3]at c0 c1 c2 own ex x3 hz ⊢
   rw [←hnb]at c0 c1 c2 own ⊢
   rw [←hbe]at c2 ex ⊢
   rw [←hbn]at c0 own hz ⊢
   have HB:=Lib.hid (show NB=bn+2∧be=bn+1∧bn=wo.heap.size from ⟨by omega,by omega,hbn⟩)
   clear hW3 hnb hbe hbn
   have hx0:=Lib.hid (X1.out.size)
   have XW:=Lib.hid (X1.out.trans x3)
   have XR:=Lib.hid x3
   have EX:=Lib.hid ex
   have HZ:=Lib.hid hz
   clear x3 ex hz X1 hd
   go_loopg [10,11,12] k (fun gk size full i w'=> ∃a:Nat,a≤k∧gk=k - a∧size = .int .i64 ((j ^ (a+1):Nat):Int)∧full = .bool (decide (4096<j ^ (a+1)))∧i = .int .i64 a∧ ∃v,w'.cell? ⟨NB,0,none⟩=some v∧w'.frozen? ⟨NB,0,none⟩=false∧w'.cell? ⟨NB,1,none⟩=some (.slice (some ⟨be,0,none⟩) 1 1)∧OwnOf Rep.node w' (fun b=>b≠NB) bn 64 v (fullQ a).nodes∧(∀x,v.ownBlock=some x→x=bn∨W3.heap.size≤x)∧Chg (fun b=>b=NB∨b=bn) W3 w')
   case atStart =>
    refine⟨0,by omega,rfl,by simp,by rw [decide_eq_false (by simp;omega)],rfl,_,c0,c1,c2,own,fun x hx=> .inl ?_,Chg.refl _ _⟩
    simp [Value.ownBlock]at hx
    exact hx.symm
   case round =>
    obtain⟨a,ha,rfl,rfl,rfl,rfl,v,d0,d1,d2,own,hu,ch⟩:=hrel
    have hpow:=full_pow j (a+1) hm2 (by omega)
    by_cases hlt:a<k
    ·have hd:decide ((a:Int)<(k:Int))=true:=by simp;omega
     have hpow2:=full_pow j (a+1+1) hm2 (by omega)
     have HO:=Lib.hid own
     have HU:=Lib.hid hu
     have HC:=Lib.hid ch
     have e0:=cell_lt d0
     have hbs:=HO.out.lt
     have hnl:=fullQ_len a
     have HNL:=Lib.hid hnl
     have HN:=Lib.hid (fullN_app a)
     have HFS:=Lib.hid (full_step j a)
     have hps:j ^ (a+1+1)=j ^ (a+1)*j:=Nat.pow_succ ..
     rw [hps]at HFS hpow2
     have HPS:=Lib.hid hps
     have hbn:bn≤wr.heap.size:=by have:=ch.size;have:=HZ.out;have:=HB.out;omega
     obtain⟨P,hP⟩ : ∃P,P=j ^ (a+1):=⟨_,rfl⟩
     rw [←hP]at HFS hpow hpow2 ⊢
     have HP:=Lib.hid hP
     have hwrap:IntKind.i64.wrap ((P:Int)*(j:Int))=((P*j:Nat):Int):=by
      rw [←Int.natCast_mul]
      exact Go.IntWalk.i64_in _ (by generalize P*j=z at hpow2;omega)
     clear own hu ch hnl hps hP
     by_cases hf:4096<P
     all_goals
      have hfd:=(show decide (4096<P)=_ from by first | exact decide_eq_true hf | exact decide_eq_false hf)
      rw [hfd]at HFS ⊢
      have HFD:=Lib.hid hf
      clear hf hfd
      have hne : ∀x,v.ownBlock=some x→x≠NB:=fun x hx=>by have h1:=HU.out x hx;have h2:=HZ.out;have h3:=HB.out;omega
      go_wp2_with (at_builtin;refine wpList_append_one Rep.node (fun b=>b≠NB) rfl _ _ 22 rfl bn 64 i2 _ 96 Tryz.underlying22 hi2 hz20 hz21 hz22 rfl (by decide) _ (fullQ a).nodes rfl (HO.out.ext ((Ext.refl _).alloc _)) ⟨wr.heap.size,0,none⟩ 1 (fullN a) [.int .i64 4,.int .i64 (a:Int),.int .i64 0,.int .i64 0,.string ⟨#[]⟩,.slice none 0 0,.slice none 0 0] rfl ?c1 ?c2 ?c3 ?c4 ?c5 ?_)
      case c1=>exact⟨_,_,rfl,SliceOf.nil _ _,SliceOf.nil _ _,⟨by unfold okI;simp [fullN],by unfold okI;simp [fullN];omega,by unfold okI;simp [fullN],by unfold okI;simp [fullN]⟩,(show (⟨#[]⟩:ByteArray).size≤maxLen by decide)⟩
      case c2=>exact cells_new _ [.int .i64 4,.int .i64 (a:Int),.int .i64 0,.int .i64 0,.string ⟨#[]⟩,.slice none 0 0,.slice none 0 0] _
      case c3=>rw [HNL.out];unfold maxLen;omega
      case c4=>rw [HNL.out];omega
      case c5=>simp;omega
      intro g cap w5 own5 gr5 hg5
      have q0:=cell_grown gr5 (((Ext.refl wr).alloc (.cells #[.int .i64 4,.int .i64 (a:Int),.int .i64 0,.int .i64 0,.string ⟨#[]⟩,.slice none 0 0,.slice none 0 0] 64)).at d0) hne
      have q1:=frozen_grown gr5 (((Ext.refl wr).alloc (.cells #[.int .i64 4,.int .i64 (a:Int),.int .i64 0,.int .i64 0,.string ⟨#[]⟩,.slice none 0 0,.slice none 0 0] 64)).at d0) (((Ext.refl wr).alloc _).unfrozen d0 d1) hne
      have q2:=cell_grown gr5 (((Ext.refl wr).alloc (.cells #[.int .i64 4,.int .i64 (a:Int),.int .i64 0,.int .i64 0,.string ⟨#[]⟩,.slice none 0 0,.slice none 0 0] 64)).at d2) hne
      have e5:=cell_lt q0
      have CH5:Chg (fun b=>b=NB∨b=bn) W3 w5:=(HC.out.alloc _).grown gr5 fun x hx=>by
       rcases HU.out x hx with h | h
       ·exact .inl (.inr h)
       ·exact .inr h
      have HQ:=Lib.hid (And.intro q2 (And.intro own5 CH5))
      have HG:=Lib.hid hg5
      have HLA:=Lib.hid (show (wr.alloc (.cells #[.int .i64 4,.int .i64 (a:Int),.int .i64 0,.int .i64 0,.string ⟨#[]⟩,.slice none 0 0,.slice none 0 0] 64)).heap.size=wr.heap.size+1 by simp)
      clear own5 CH5 q2 hg5 gr5 d0 d1 d2 e0
      go_wp2_with fail
      go_roundg (k - (a+1))
      case measure=>omega
      case rel =>
       obtain⟨q2,own5,ch5⟩:=HQ.out
       have hgN:g≠NB:=by
        rcases HG.out with h | h
        ·exact hne g h
        ·have h1:=HC.out.size
         have h2:=HZ.out
         have h3:=HB.out
         omega
       refine⟨a+1,by omega,rfl,by rw [HPS.out,←HP.out];simp,?_,by go_num,.slice (some ⟨g,0,none⟩) ((fullQ a).nodes.length+1) cap,by go_simp,by go_simp,by go_simp,?_,fun x hx=> ?_,ch5.setCell (.inl (.inl rfl)) _⟩
       ·rw [HPS.out,←HP.out,←HFS.out]
        simp [←Int.natCast_mul]
        try omega
       ·rw [HN.out]
        refine own5.chgS (chg_set w5 ⟨NB,0,none⟩ _) (fun x hx=> ?_) (fun x hx=>hx)
        simp [Value.ownBlock]at hx
        subst hx
        exact hgN
       ·simp [Value.ownBlock]at hx
        subst hx
        rcases HG.out with h | h
        ·exact HU.out _ h
        ·have h1:=HC.out.size
         omega
    ·have hak:a=k:=by omega
     subst hak
     have hd:decide ((a:Int)<(a:Int))=false:=by simp
     have xr:Ext wo wr:=ch.below XR.out fun b hb=>by have h:=HB.out;omega
     have hs:=own.slice
     obtain⟨pn,cn,rfl,-⟩:=hs.form
     rw [fullQ_len]at hs d0
     have NN:=Lib.hid hs
     have EE:=Lib.hid ((EX.out.chg ch fun b hb=>by have h:=HB.out;omega).ext (on_sub _ _))
     have XX:=Lib.hid (HXX.out.ext xr.full)
     have XF:=Lib.hid (show Ext w wr from ch.below XW.out fun b hb=>by have h:=HB.out;have h2:=hx0.out;omega)
     have hev:=full_eval a j (by omega) hm2
     obtain⟨P,hP⟩ : ∃P,P=j ^ (a+1):=⟨_,rfl⟩
     rw [←hP]at hev hpow ⊢
     clear hP xr hs own ch hu EX HXX XR XW HB HZ c0 c1 c2 d1
     have hl:=slice_lit Rep.int wr [.int .i64 0] 3 [[.int .i64 0]] [0] rfl ⟨⟨rfl,by omega⟩,trivial⟩ (by simp [maxLen])
     have xl:=((Ext.refl wr).alloc (.cells #[.int .i64 0] 3)).alloc (.cells #[.string ⟨#[84]⟩,.slice (some ⟨wr.heap.size,0,none⟩) 1 1,.slice px j cx] 42)
     have ht:SliceOf Rep.tab ((wr.alloc (.cells #[.int .i64 0] 3)).alloc (.cells #[.string ⟨#[84]⟩,.slice (some ⟨wr.heap.size,0,none⟩) 1 1,.slice px j cx] 42)).cell? (.slice (some ⟨(wr.alloc (.cells #[.int .i64 0] 3)).heap.size,0,none⟩) 1 1) (fullDB j) :=
      slice_lit Rep.tab (wr.alloc (.cells #[.int .i64 0] 3)) [.string ⟨#[84]⟩,.slice (some ⟨wr.heap.size,0,none⟩) 1 1,.slice px j cx] 42 [[.string ⟨#[84]⟩,.slice (some ⟨wr.heap.size,0,none⟩) 1 1,.slice px j cx]] (fullDB j) rfl
       ⟨⟨_,_,rfl,hl.ext ((Ext.refl _).alloc _).full,XX.out.ext xl.full,(show (⟨#[84]⟩:ByteArray).size≤maxLen by decide)⟩,trivial⟩ (by simp [maxLen,fullDB])
     rw [show (wr.alloc (.cells #[.int .i64 0] 3)).heap.size=wr.heap.size+1 by simp]at ht
     have TT:=Lib.hid ht
     have XL:=Lib.hid xl
     have HEV:=Lib.hid hev
     have e0:=cell_lt d0
     clear hl xl ht hev
     go_wp2_with fail
     refine(eval_query (fullQ a) (fullDB j) _ _ _ _ (NN.out.ext XL.out.full) (EE.out.ext XL.out.full) TT.out (by simp [fullDB]) (full_fitQ a) (full_fit a j (by omega) hm2) (HT.out.ext (XF.out.trans XL.out))).mono ?_
     rintro e w5 ⟨v5,rfl,s5,x5⟩
     have X5:=Lib.hid (XF.out.trans (XL.out.trans x5))
     obtain⟨p5,c5,rfl,-⟩:=s5.form
     clear s5 x5 NN EE XX XF XL TT d0 d2 e0
     by_cases hf:4096<P
     ·have hev:=HEV.out
      rw [if_pos hf]at hev
      rw [hev,decide_eq_true hf]
      dsimp only
      have HF:=Lib.hid hf
      clear hf hev HEV
      go_wp2_with fail
      refine(awake_algebra _ (HT.out.ext X5.out)).mono ?_
      rintro e w6 ⟨rfl,x6⟩
      have X6:=Lib.hid (X5.out.trans x6)
      clear x6 X5
      go_wp2_with fail
      go_ret
      exact⟨rfl,X6.out⟩
     ·have hev:=HEV.out
      rw [if_neg hf]at hev
      rw [hev.1,hev.2,decide_eq_false hf]
      clear hf hev HEV
      go_wp2_with fail
      refine(awake_algebra _ (HT.out.ext X5.out)).mono ?_
      rintro e w6 ⟨rfl,x6⟩
      have X6:=Lib.hid (X5.out.trans x6)
      clear x6 X5
      go_wp2_with fail
      go_ret
      exact⟨rfl,X6.out⟩
end Go.Proofs.YtombmdaohcjokaaGreatDoor
namespace Go.Proofs.YtombmdaohcjokaaGreatDoor
open Go.ChangeShapes Go.RowKit
def laid3:List (String×DataW Unit):= [("math/bits.deBruijn32tab",Rows.laid_math_bits_deBruijn32tab),("math/bits.deBruijn64tab",Rows.laid_math_bits_deBruijn64tab),("internal/strconv.uint64pow10",Rows.laid_internal_strconv_uint64pow10)]
theorem door_met3 (os:Os) (args:Array Value):laidMetH Tryz.prog laid3 ((World.doorLaid Tryz.prog 29 os).forCall (fun _ _=>0) ⟨#[],args,[]⟩).memory :=
 laidMetH_of_parts3 (fuel:=8) (laidMet_of_run' 8 (by kernel_rfl) (by kernel_rfl)) (by kernel_rfl) (by kernel_rfl)
set_option maxRecDepth 100000 in
theorem of_laid3 {W:World} (h:laidMetH Tryz.prog laid3 W):TabW W:=by
 rw [MakeChecks.laidMetH_plain _ _ _ (by kernel_rfl)]at h
 have h3:=laidMet.tail (laidMet.tail h)
 exact Lib.tabIs_of_head (k:= .u64) (zs:=Lib.pow10Tab) (g:=2) (t:=353) (e:=249) (n:=20) (by kernel_rfl) (by kernel_rfl) Tryz.underlying353 Tryz.underlying249 (by kernel_rfl) (by kernel_rfl) h3
end Go.Proofs.YtombmdaohcjokaaGreatDoor
namespace Go.Proofs.YtombmdaohcjokaaGreatDoor
open Go.RowKit Go.Deep Go.ChangeShapes Go.WideShapes Go.ChangeAt
end Go.Proofs.YtombmdaohcjokaaGreatDoor
namespace Go.Proofs.YtombmdaohcjokaaGreatDoor
open Go.RowKit Go.Deep Go.ChangeShapes Go.WideShapes Go.ChangeAt
end Go.Proofs.YtombmdaohcjokaaGreatDoor
