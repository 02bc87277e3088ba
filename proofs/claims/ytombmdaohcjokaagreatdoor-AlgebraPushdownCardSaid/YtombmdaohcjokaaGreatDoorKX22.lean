/- joined texts of a proof: NodP, StoreR, PrJ, NodW, BalW -/
import Derived.Test.YtombmdaohcjokaaGreatDoorKX21
import Derived.Test.YtombmdaohcjokaaGreatDoorKX01
import Derived.Laws.Rows
import Derived.OneCell
import Derived.Test.YtombmdaohcjokaaGreatDoorKX20
import Derived.Test.YtombmdaohcjokaaGreatDoorKX11
namespace Go.Proofs.YtombmdaohcjokaaGreatDoor
open Go.RowKit
theorem cols_scan (es:List ExprI) (done:List (List Int)) (p:Int) (nm:ByteArray) (h:nm=⟨#[114]⟩∨nm=⟨#[115]⟩):colsN es typesA done ⟨1,0,0,p,nm,[],[]⟩=([1,2],0):=by
 rcases h with rfl | rfl <;> kernel_rfl
theorem cols_sel {es:List ExprI} {types:List TypI} {done:List (List Int)} {a b:Nat} {p:Int} {nm:ByteArray} {xs:List Int} {gs:List AggI} (ha:a<done.length) (h:predC es (done.getD a []) p=0):colsN es types done ⟨2,a,b,p,nm,xs,gs⟩=(done.getD a [],0):=by
 unfold colsN
 rw [if_neg (by dsimp only;omega),if_neg (by dsimp only;omega),if_neg (by simp [legN,binK];omega),if_pos rfl]
 have e:inputC done ⟨2,a,b,p,nm,xs,gs⟩=done.getD a []:=by simp [inputC,binK]
 rw [e]
 dsimp only
 rw [h,Int.toNat_natCast]
theorem compat_self (c:List Int):compatC c c=(c,0):=by
 induction c with
 |nil=>rfl
 |cons x c ih =>
  unfold compatC
  rw [if_neg (by simp [badC]),ih,if_neg (by simp)]
  have:meetC x x=x:=by unfold meetC;split <;> rfl
  rw [this]
theorem cols_set {es:List ExprI} {types:List TypI} {done:List (List Int)} {k:Int} {a b:Nat} {p:Int} {nm:ByteArray} {xs:List Int} {gs:List AggI} (hk:6≤k∧k≤8) (ha:a<done.length) (hb:b<done.length) (h:done.getD a []=done.getD b []):colsN es types done ⟨k,a,b,p,nm,xs,gs⟩=(done.getD a [],0):=by
 unfold colsN
 rw [if_neg (by dsimp only;omega),if_neg (by dsimp only;omega),if_neg (by simp [legN];omega),if_neg (by dsimp only;omega),if_neg (by dsimp only;omega),if_neg (by dsimp only;omega),if_pos hk]
 dsimp only
 rw [Int.toNat_natCast,Int.toNat_natCast,←h,compat_self]
theorem predC_bool {es:List ExprI} {cols:List Int} {p:Int} (h:checkE es cols p=(3,0)):predC es cols p=0:=by
 unfold predC
 rw [h,if_neg (by simp)]
def predE (kinds:List Int) (p0 p1 p2 p3:Int):List ExprI:=predL kinds p0 p1 p2 p3 0
def predI (kinds:List Int) (p0 p1 p2 p3:Int):Int:=(((predE kinds p0 p1 p2 p3).length - 1:Nat):Int)
def setPred (pr:Int) (n:NodeI):NodeI:=⟨n.kind,n.a,n.b,pr,n.table,n.exprs,n.aggs⟩
def scanS:NodeI:=⟨1,0,0,0,⟨#[115]⟩,[],[]⟩
def nodesQ (p0 p1 p2 p3:Int) (l:List NodeI):QueryI:=⟨([scanR,scanS]++l).map (setPred (predI [1,2] p0 p1 p2 p3)),predE [1,2] p0 p1 p2 p3⟩
theorem pred_check (kinds:List Int) (p0 p1 p2 p3:Int) (hk:0<kinds.length) (hr : ∀k∈kinds,k=1∨k=2):predC (predE kinds p0 p1 p2 p3) kinds (predI kinds p0 p1 p2 p3)=0:=by
 have h:=pred_typ [] kinds p0 p1 p2 p3 hk hr (by simp)
 rw [List.nil_append]at h
 exact predC_bool h
theorem predE_fit (kinds:List Int) (p0 p1 p2 p3:Int):(predE kinds p0 p1 p2 p3).length≤4∧ ∀e∈predE kinds p0 p1 p2 p3,fitV e.c:=predL_fit kinds p0 p1 p2 p3 0
theorem typed_two (es:List ExprI) (hl:es.length≤200) (p q:Int):Typed typesA ⟨[⟨1,0,0,p,⟨#[114]⟩,[],[]⟩,⟨1,0,0,q,⟨#[115]⟩,[],[]⟩],es⟩ [[1,2],[1,2]]:=by
 refine⟨rfl,hl,fun i hi=> ?_⟩
 match i,hi with
 |0,_=>exact⟨cols_scan es [] p _ (.inl rfl),by decide,by decide⟩
 |1,_=>exact⟨cols_scan es [[1,2]] q _ (.inr rfl),by decide,by decide⟩
theorem Typed.next {types:List TypI} {ns:List NodeI} {es:List ExprI} {cols:List (List Int)} (h:Typed types ⟨ns,es⟩ cols) (n:NodeI) (c:List Int) (hc:colsN es types cols n=(c,0)) (h1:1≤c.length) (h2:c.length≤64):Typed types ⟨ns ++ [n],es⟩ (cols ++ [c]):=by
 have:=h.snoc [] n c (by rw [List.append_nil];exact h.ex) (by rw [List.append_nil];exact hc) h1 h2
 rwa [List.append_nil]at this
def lin5 (l:List Int):Prop:=l.Pairwise (· < ·)∧ ∀x∈l,x∈ [1,2,3,4,(5:Int)]
theorem lin5_law:LinP [1,2,3,4,5] lin5:=⟨fun _ h=>h.2,fun _ h k=>⟨h,k⟩⟩
theorem lin5_len (l:List Int) (h:lin5 l):l.length≤1000:=by
 have:=nodup_len (h.1.imp fun {a b} h=>Int.ne_of_lt h) h.2
 simp at this
 omega
theorem gen_rowP (l:List Num5) (most:Nat) : ∀r∈genRows l most,rowP lin5 2 r:=by
 intro r hr
 obtain⟨t,ht,rfl⟩:=List.mem_map.1 hr
 obtain⟨y,_,rfl⟩:=List.mem_map.1 ht
 refine⟨Nat.le_refl 2,(genV_few y.c y.d).2,List.pairwise_singleton _ _,fun x hx=> ?_⟩
 rw [List.mem_singleton.1 hx]
 have h:y.e % 5=0∨y.e % 5=1∨y.e % 5=2∨y.e % 5=3∨y.e % 5=4:=by omega
 rcases h with h | h | h | h | h <;> rw [h] <;> decide
theorem dbA_rows {L:List Int→Prop} {x y:List Row} (hx : ∀r∈x,rowP L 2 r) (hy : ∀r∈y,rowP L 2 r) : ∀t∈dbA x y,∀r∈t.rows,rowP L t.typ.kinds.length r:=by
 intro t ht r hr
 unfold dbA at ht
 simp only [List.mem_cons,List.not_mem_nil,or_false]at ht
 rcases ht with rfl | rfl
 ·exact hx r hr
 ·exact hy r hr
theorem mult_selV (v:List Val) (l:List Row):mult v l=(selV l v).length:=by
 classical
 unfold mult selV
 rw [List.countP_eq_length_filter]
 congr 1
 refine List.filter_congr fun r _=> ?_
 rw [Bool.eq_iff_iff]
 simp [ord_vals.eq]
open Classical in
theorem mult_rep (v:List Val) (n:Nat) (r:Row):mult v (List.replicate n r)=if r.vals=v then n else 0:=by
 induction n with
 |zero=>simp [mult]
 |succ n ih =>
  rw [List.replicate_succ,mult_cons,ih]
  by_cases c:r.vals=v
  ·rw [mult_one c,if_pos c,if_pos c];omega
  ·rw [mult_other c,if_neg c,if_neg c]
open Classical in
theorem mult_keys (v:List Val) (f:List Val→List Row) (n:List Val→Nat) (hf : ∀k,mult v (f k)=if k=v then n k else 0) : ∀ks:List (List Val),ks.Nodup→(v∉ks→mult v (ks.flatMap f)=0)∧(v∈ks→mult v (ks.flatMap f)=n v):=by
 intro ks
 induction ks with
 |nil=>intro _;exact⟨fun _=>rfl,fun h=>by cases h⟩
 |cons k ks ih =>
  intro hn
  obtain⟨h1,h2⟩:=List.nodup_cons.1 hn
  obtain⟨i1,i2⟩:=ih h2
  rw [List.flatMap_cons,mult_append,hf]
  constructor
  ·intro h
   rw [List.mem_cons,not_or]at h
   rw [if_neg (fun e=>h.1 e.symm),i1 h.2]
  ·intro h
   by_cases c:k=v
   ·rw [if_pos c,i1 (by rw [←c];exact h1),c,Nat.add_zero]
   ·rw [if_neg c,i2 ((List.mem_cons.1 h).resolve_left fun e=>c e.symm),Nat.zero_add]
theorem mult_set (kind:Int) (x y:List Row) (v:List Val):mult v (setP kind x y)=cntS kind (mult v x) (mult v y):=by
 classical
 have h:=mult_keys v (setRow kind x y) (fun k=>cntS kind (selV x k).length (selV y k).length) (fun k=>by unfold setRow;rw [mult_rep]) (firsts (x.map Row.vals)) (firsts_law _).1
 by_cases c:v∈firsts (x.map Row.vals)
 ·unfold setP
  rw [h.2 c,mult_selV,mult_selV]
 ·unfold setP
  rw [h.1 c]
  have e:mult v x=0:=mult_zero fun p hp hv=>c (((firsts_law _).2 _).2 (List.mem_map.2 ⟨p,hp,hv⟩))
  rw [e]
  unfold cntS
  split <;> simp
theorem mult_filter (tr:List Val→Bool) (v:List Val) (l:List Row):mult v (l.filter fun r=>tr r.vals)=if tr v=true then mult v l else 0:=by
 induction l with
 |nil=>simp [mult]
 |cons r l ih =>
  rw [List.filter_cons,mult_cons v r l]
  by_cases c:tr r.vals=true
  ·rw [if_pos c,mult_cons,ih]
   by_cases e:r.vals=v
   ·rw [←e,if_pos c,if_pos c]
   ·rw [mult_other e];split <;> omega
  ·rw [if_neg c,ih]
   by_cases e:r.vals=v
   ·rw [←e,if_neg c,if_neg c]
   ·rw [mult_other e];split <;> omega
theorem push_set (tr:List Val→Bool) (kind:Int) (x y:List Row) (v:List Val):mult v ((setP kind x y).filter fun r=>tr r.vals)=mult v (setP kind (x.filter fun r=>tr r.vals) (y.filter fun r=>tr r.vals)):=by
 rw [mult_filter,mult_set,mult_set,mult_filter,mult_filter]
 by_cases c:tr v=true
 ·rw [if_pos c,if_pos c,if_pos c]
 ·rw [if_neg c,if_neg c,if_neg c]
  unfold cntS
  split <;> simp
theorem bal_mult (x y:List Row) (v:List Val):mult v (setP 7 x y)+mult v (setP 8 x y)=mult v x:=by
 rw [mult_set,mult_set]
 unfold cntS
 rw [if_pos rfl,if_neg (by decide)]
 omega
theorem bal_len (x y:List Row):(setP 7 x y).length+(setP 8 x y).length=x.length:=by
 classical
 have h:=part_sum id x (firsts (x.map Row.vals)) (firsts_law _).1 fun r hr=>((firsts_law _).2 _).2 (List.mem_map.2 ⟨r,hr,rfl⟩)
 have e : ∀ks:List (List Val),(ks.flatMap (setRow 7 x y)).length+(ks.flatMap (setRow 8 x y)).length=(ks.map fun k=>(selS id x k).length).sum:=by
  intro ks
  induction ks with
  |nil=>rfl
  |cons k ks ih =>
   rw [List.flatMap_cons,List.flatMap_cons,List.length_append,List.length_append,List.map_cons,List.sum_cons,←ih]
   have h1:(setRow 7 x y k).length+(setRow 8 x y k).length=(selS id x k).length:=by
    unfold setRow
    rw [List.length_replicate,List.length_replicate]
    unfold cntS
    rw [if_pos rfl,if_neg (by decide)]
    show _=(selV x k).length
    omega
   omega
 unfold setP
 rw [e,h]
theorem nodeP_sel (es:List ExprI) (db:List TabI) (cols:List (List Int)) (done:List (List Row)) (a b:Nat) (p:Int) (nm:ByteArray) (xs:List Int) (gs:List AggI):nodeP es db cols done ⟨2,a,b,p,nm,xs,gs⟩=(done.getD a []).filter fun r=>trE es p r.vals:=rfl
theorem nodeP_uni (es:List ExprI) (db:List TabI) (cols:List (List Int)) (done:List (List Row)) (a b:Nat) (p:Int) (nm:ByteArray) (xs:List Int) (gs:List AggI):nodeP es db cols done ⟨6,a,b,p,nm,xs,gs⟩=done.getD a []++done.getD b []:=rfl
noncomputable def opP (k:Int) (x y:List Row):List Row:=if k=6 then x++y else setP k x y
theorem nodeP_op (es:List ExprI) (db:List TabI) (cols:List (List Int)) (done:List (List Row)) (k:Int) (hk:k=6∨k=7∨k=8) (a b:Nat) (p:Int) (nm:ByteArray) (xs:List Int) (gs:List AggI):nodeP es db cols done ⟨k,a,b,p,nm,xs,gs⟩=opP k (done.getD a []) (done.getD b []):=by
 rcases hk with rfl | rfl | rfl <;> rfl
theorem setP_len (k:Int) (x y:List Row) (hk:k=7∨k=8):(setP k x y).length≤x.length:=by
 have:=bal_len x y
 rcases hk with rfl | rfl <;> omega
theorem opP_len (k:Int) (hk:k=6∨k=7∨k=8) (x y:List Row):(opP k x y).length≤x.length+y.length:=by
 unfold opP
 split
 ·rw [List.length_append];exact Nat.le_refl _
 ·have:=setP_len k x y (by omega);omega
theorem run_two2 (q:QueryI) (x y:List Row) (cols:List (List Int)) (h0:q.nodes[0]!.kind=1∧q.nodes[0]!.table=⟨#[114]⟩) (h1:q.nodes[1]!.kind=1∧q.nodes[1]!.table=⟨#[115]⟩) (hx:x.length≤4096) (hy:y.length≤4096):evalUpto q (dbA x y) cols 2=([x,y],0):=by
 have n0:nodeP q.exprs (dbA x y) cols [] q.nodes[0]! = x:=by unfold nodeP;rw [if_pos h0.1,h0.2];exact scan_r x y
 have n1:nodeP q.exprs (dbA x y) cols [x] q.nodes[1]! = y:=by unfold nodeP;rw [if_pos h1.1,h1.2];exact scan_s x y
 exact eval_step q (dbA x y) cols 1 (eval_step q (dbA x y) cols 0 (ls:= []) rfl n0 hx) n1 hy
def opN (k:Int) (a b:Nat):NodeI:=⟨k,a,b,0,⟨#[]⟩,[],[]⟩
theorem okPr (p0 p1 p2 p3:Int):(predE [1,2] p0 p1 p2 p3).length≤200:=Nat.le_trans (predE_fit _ _ _ _ _).1 (by decide)
theorem fitQ_nodes (p0 p1 p2 p3:Int) (l:List NodeI) (hl : ∀n∈l,n.exprs.length≤1000∧n.aggs.length≤1000):FitQ (nodesQ p0 p1 p2 p3 l):=by
 refine⟨(predE_fit _ _ _ _ _).2,fun x hx=> ?_⟩
 obtain⟨n,hn,rfl⟩:=List.mem_map.1 hx
 rcases List.mem_append.1 hn with hn | hn
 ·simp only [List.mem_cons,List.not_mem_nil,or_false]at hn
  rcases hn with rfl | rfl <;> exact⟨Nat.zero_le _,Nat.zero_le _⟩
 ·exact hl n hn
theorem run3 (q:QueryI) (db:List TabI) {cols:List (List Int)} {x y l:List Row} (hn:q.nodes.length=3) (hc:columnsQ q (db.map TabI.typ)=(cols,0)) (h2:evalUpto q db cols 2=([x,y],0)) (h:nodeP q.exprs db cols [x,y] q.nodes[2]! = l) (hl:l.length≤4096):evalQ q db=(sortBy cmpRow l,0):=by
 have h3:=eval_step q db cols 2 h2 h hl
 rw [evalQ_ok q db hc (by rw [hn];exact h3)]
 rfl
theorem run4 (q:QueryI) (db:List TabI) {cols:List (List Int)} {x y l m:List Row} (hn:q.nodes.length=4) (hc:columnsQ q (db.map TabI.typ)=(cols,0)) (h2:evalUpto q db cols 2=([x,y],0)) (h:nodeP q.exprs db cols [x,y] q.nodes[2]! = l) (hl:l.length≤4096) (h':nodeP q.exprs db cols [x,y,l] q.nodes[3]! = m) (hm:m.length≤4096):evalQ q db=(sortBy cmpRow m,0):=by
 have h3:=eval_step q db cols 2 h2 h hl
 have h4:=eval_step q db cols 3 h3 h' hm
 rw [evalQ_ok q db hc (by rw [hn];exact h4)]
 rfl
theorem run5 (q:QueryI) (db:List TabI) {cols:List (List Int)} {x y l m k:List Row} (hn:q.nodes.length=5) (hc:columnsQ q (db.map TabI.typ)=(cols,0)) (h2:evalUpto q db cols 2=([x,y],0)) (h:nodeP q.exprs db cols [x,y] q.nodes[2]! = l) (hl:l.length≤4096) (h':nodeP q.exprs db cols [x,y,l] q.nodes[3]! = m) (hm:m.length≤4096) (h'':nodeP q.exprs db cols [x,y,l,m] q.nodes[4]! = k) (hk:k.length≤4096):evalQ q db=(sortBy cmpRow k,0):=by
 have h3:=eval_step q db cols 2 h2 h hl
 have h4:=eval_step q db cols 3 h3 h' hm
 have h5:=eval_step q db cols 4 h4 h'' hk
 rw [evalQ_ok q db hc (by rw [hn];exact h5)]
 rfl
theorem run_op (p0 p1 p2 p3:Int) (k:Int) (hk:k=6∨k=7∨k=8) (x y:List Row) (hx : ∀r∈x,rowP lin5 2 r) (hy : ∀r∈y,rowP lin5 2 r) (lx:x.length≤1000) (ly:y.length≤1000) :
  evalQ (nodesQ p0 p1 p2 p3 [opN k 0 1]) (dbA x y)=(sortBy cmpRow (opP k x y),0)∧FitRun (nodesQ p0 p1 p2 p3 [opN k 0 1]) (dbA x y):=by
 obtain⟨pr,hpr⟩ : ∃z,z=predI [1,2] p0 p1 p2 p3:=⟨_,rfl⟩
 obtain⟨es,hes⟩ : ∃z,z=predE [1,2] p0 p1 p2 p3:=⟨_,rfl⟩
 have hq:nodesQ p0 p1 p2 p3 [opN k 0 1]=⟨[⟨1,0,0,pr,⟨#[114]⟩,[],[]⟩,⟨1,0,0,pr,⟨#[115]⟩,[],[]⟩] ++ [⟨k,0,1,pr,⟨#[]⟩,[],[]⟩],es⟩:=by rw [hpr,hes];rfl
 have hl:es.length≤200:=by rw [hes];exact okPr ..
 have hf : ∀e∈es,fitV e.c:=by rw [hes];exact(predE_fit _ _ _ _ _).2
 rw [hq]
 have T:=(typed_two es hl pr pr).next ⟨k,(0:Nat),(1:Nat),pr,⟨#[]⟩,[],[]⟩ [1,2] (cols_set (done:= [[1,2],[1,2]]) (by omega) (by decide) (by decide) rfl) (by decide) (by decide)
 have hc:=T.cols (by simp) (by simp)
 have h2:=run_two2 ⟨[⟨1,0,0,pr,⟨#[114]⟩,[],[]⟩,⟨1,0,0,pr,⟨#[115]⟩,[],[]⟩] ++ [⟨k,0,1,pr,⟨#[]⟩,[],[]⟩],es⟩ x y ([[1,2],[1,2]] ++ [[1,2]]) ⟨rfl,rfl⟩ ⟨rfl,rfl⟩ (by omega) (by omega)
 exact⟨run3 _ _ rfl hc h2 (nodeP_op es (dbA x y) ([[1,2],[1,2]] ++ [[1,2]]) [x,y] k hk 0 1 pr ⟨#[]⟩ [] []) (by have:=opP_len k hk x y;show (opP k x y).length≤_;omega),(Typed.fit (db:=dbA x y) lin5_law lin5_len T (by simp) (by simp) hf (dbA_rows hx hy)).1⟩
theorem run_opSel (p0 p1 p2 p3:Int) (k:Int) (hk:k=6∨k=7∨k=8) (x y:List Row) (hx : ∀r∈x,rowP lin5 2 r) (hy : ∀r∈y,rowP lin5 2 r) (lx:x.length≤1000) (ly:y.length≤1000) :
  evalQ (nodesQ p0 p1 p2 p3 [opN k 0 1,opN 2 2 0]) (dbA x y)=(sortBy cmpRow ((opP k x y).filter fun r=>trE (predE [1,2] p0 p1 p2 p3) (predI [1,2] p0 p1 p2 p3) r.vals),0)∧FitRun (nodesQ p0 p1 p2 p3 [opN k 0 1,opN 2 2 0]) (dbA x y):=by
 have hp:=pred_check [1,2] p0 p1 p2 p3 (by decide) (by decide)
 obtain⟨pr,hpr⟩ : ∃z,z=predI [1,2] p0 p1 p2 p3:=⟨_,rfl⟩
 obtain⟨es,hes⟩ : ∃z,z=predE [1,2] p0 p1 p2 p3:=⟨_,rfl⟩
 have hq:nodesQ p0 p1 p2 p3 [opN k 0 1,opN 2 2 0]=⟨[⟨1,0,0,pr,⟨#[114]⟩,[],[]⟩,⟨1,0,0,pr,⟨#[115]⟩,[],[]⟩] ++ [⟨k,0,1,pr,⟨#[]⟩,[],[]⟩] ++ [⟨2,(2:Nat),(0:Nat),pr,⟨#[]⟩,[],[]⟩],es⟩:=by rw [hpr,hes];rfl
 have hl:es.length≤200:=by rw [hes];exact okPr ..
 have hf : ∀e∈es,fitV e.c:=by rw [hes];exact(predE_fit _ _ _ _ _).2
 rw [hq]
 rw [←hes,←hpr]at hp ⊢
 have T:=((typed_two es hl pr pr).next ⟨k,(0:Nat),(1:Nat),pr,⟨#[]⟩,[],[]⟩ [1,2] (cols_set (done:= [[1,2],[1,2]]) (by omega) (by decide) (by decide) rfl) (by decide) (by decide)).next ⟨2,(2:Nat),(0:Nat),pr,⟨#[]⟩,[],[]⟩ [1,2] (cols_sel (done:= [[1,2],[1,2]] ++ [[1,2]]) (by decide) hp) (by decide) (by decide)
 have hc:=T.cols (by simp) (by simp)
 have h2:=run_two2 ⟨[⟨1,0,0,pr,⟨#[114]⟩,[],[]⟩,⟨1,0,0,pr,⟨#[115]⟩,[],[]⟩] ++ [⟨k,0,1,pr,⟨#[]⟩,[],[]⟩] ++ [⟨2,(2:Nat),(0:Nat),pr,⟨#[]⟩,[],[]⟩],es⟩ x y ([[1,2],[1,2]] ++ [[1,2]] ++ [[1,2]]) ⟨rfl,rfl⟩ ⟨rfl,rfl⟩ (by omega) (by omega)
 have hol:=opP_len k hk x y
 exact⟨run4 _ _ rfl hc h2 (nodeP_op es (dbA x y) ([[1,2],[1,2]] ++ [[1,2]] ++ [[1,2]]) [x,y] k hk 0 1 pr ⟨#[]⟩ [] []) (by show (opP k x y).length≤_;omega) (nodeP_sel es (dbA x y) ([[1,2],[1,2]] ++ [[1,2]] ++ [[1,2]]) [x,y,opP k x y] 2 0 pr ⟨#[]⟩ [] []) (Nat.le_trans (List.length_filter_le _ _) (by show (opP k x y).length≤_;omega)),(Typed.fit (db:=dbA x y) lin5_law lin5_len T (by simp) (by simp) hf (dbA_rows hx hy)).1⟩
theorem run_selOp (p0 p1 p2 p3:Int) (k:Int) (hk:k=6∨k=7∨k=8) (x y:List Row) (hx : ∀r∈x,rowP lin5 2 r) (hy : ∀r∈y,rowP lin5 2 r) (lx:x.length≤1000) (ly:y.length≤1000) :
  evalQ (nodesQ p0 p1 p2 p3 [opN 2 0 0,opN 2 1 0,opN k 2 3]) (dbA x y)=(sortBy cmpRow (opP k (x.filter fun r=>trE (predE [1,2] p0 p1 p2 p3) (predI [1,2] p0 p1 p2 p3) r.vals) (y.filter fun r=>trE (predE [1,2] p0 p1 p2 p3) (predI [1,2] p0 p1 p2 p3) r.vals)),0)∧FitRun (nodesQ p0 p1 p2 p3 [opN 2 0 0,opN 2 1 0,opN k 2 3]) (dbA x y):=by
 have hp:=pred_check [1,2] p0 p1 p2 p3 (by decide) (by decide)
 obtain⟨pr,hpr⟩ : ∃z,z=predI [1,2] p0 p1 p2 p3:=⟨_,rfl⟩
 obtain⟨es,hes⟩ : ∃z,z=predE [1,2] p0 p1 p2 p3:=⟨_,rfl⟩
 have hq:nodesQ p0 p1 p2 p3 [opN 2 0 0,opN 2 1 0,opN k 2 3]=⟨[⟨1,0,0,pr,⟨#[114]⟩,[],[]⟩,⟨1,0,0,pr,⟨#[115]⟩,[],[]⟩] ++ [⟨2,(0:Nat),(0:Nat),pr,⟨#[]⟩,[],[]⟩] ++ [⟨2,(1:Nat),(0:Nat),pr,⟨#[]⟩,[],[]⟩] ++ [⟨k,(2:Nat),(3:Nat),pr,⟨#[]⟩,[],[]⟩],es⟩:=by rw [hpr,hes];rfl
 have hl:es.length≤200:=by rw [hes];exact okPr ..
 have hf : ∀e∈es,fitV e.c:=by rw [hes];exact(predE_fit _ _ _ _ _).2
 rw [hq]
 rw [←hes,←hpr]at hp ⊢
 have T:=(((typed_two es hl pr pr).next ⟨2,(0:Nat),(0:Nat),pr,⟨#[]⟩,[],[]⟩ [1,2] (cols_sel (done:= [[1,2],[1,2]]) (by decide) hp) (by decide) (by decide)).next ⟨2,(1:Nat),(0:Nat),pr,⟨#[]⟩,[],[]⟩ [1,2] (cols_sel (done:= [[1,2],[1,2]] ++ [[1,2]]) (by decide) hp) (by decide) (by decide)).next ⟨k,(2:Nat),(3:Nat),pr,⟨#[]⟩,[],[]⟩ [1,2] (cols_set (done:= [[1,2],[1,2]] ++ [[1,2]] ++ [[1,2]]) (by omega) (by decide) (by decide) rfl) (by decide) (by decide)
 have hc:=T.cols (by simp) (by simp)
 obtain⟨x2,hx2⟩ : ∃z,z=x.filter fun r=>trE es pr r.vals:=⟨_,rfl⟩
 obtain⟨y2,hy2⟩ : ∃z,z=y.filter fun r=>trE es pr r.vals:=⟨_,rfl⟩
 have lx2:x2.length≤x.length:=by rw [hx2];exact List.length_filter_le _ _
 have ly2:y2.length≤y.length:=by rw [hy2];exact List.length_filter_le _ _
 have h2:=run_two2 ⟨[⟨1,0,0,pr,⟨#[114]⟩,[],[]⟩,⟨1,0,0,pr,⟨#[115]⟩,[],[]⟩] ++ [⟨2,(0:Nat),(0:Nat),pr,⟨#[]⟩,[],[]⟩] ++ [⟨2,(1:Nat),(0:Nat),pr,⟨#[]⟩,[],[]⟩] ++ [⟨k,(2:Nat),(3:Nat),pr,⟨#[]⟩,[],[]⟩],es⟩ x y ([[1,2],[1,2]] ++ [[1,2]] ++ [[1,2]] ++ [[1,2]]) ⟨rfl,rfl⟩ ⟨rfl,rfl⟩ (by omega) (by omega)
 have hol:=opP_len k hk x2 y2
 rw [←hx2,←hy2]
 exact⟨run5 _ _ rfl hc h2 ((nodeP_sel es (dbA x y) ([[1,2],[1,2]] ++ [[1,2]] ++ [[1,2]] ++ [[1,2]]) [x,y] 0 0 pr ⟨#[]⟩ [] []).trans hx2.symm) (by omega) ((nodeP_sel es (dbA x y) ([[1,2],[1,2]] ++ [[1,2]] ++ [[1,2]] ++ [[1,2]]) [x,y,x2] 1 0 pr ⟨#[]⟩ [] []).trans hy2.symm) (by omega) (nodeP_op es (dbA x y) ([[1,2],[1,2]] ++ [[1,2]] ++ [[1,2]] ++ [[1,2]]) [x,y,x2,y2] k hk 2 3 pr ⟨#[]⟩ [] []) (by show (opP k x2 y2).length≤_;omega),(Typed.fit (db:=dbA x y) lin5_law lin5_len T (by simp) (by simp) hf (dbA_rows hx hy)).1⟩
theorem push_law (tr:List Val→Bool) (k:Int) (x y:List Row) (v:List Val):mult v ((opP k x y).filter fun r=>tr r.vals)=mult v (opP k (x.filter fun r=>tr r.vals) (y.filter fun r=>tr r.vals)):=by
 unfold opP
 split
 ·rw [List.filter_append]
 ·exact push_set tr k x y v
theorem push_union (tr:List Val→Bool) (x y:List Row):(opP 6 x y).filter (fun r=>tr r.vals)=opP 6 (x.filter fun r=>tr r.vals) (y.filter fun r=>tr r.vals):=by
 unfold opP
 rw [if_pos rfl,if_pos rfl,List.filter_append]
end Go.Proofs.YtombmdaohcjokaaGreatDoor
namespace Go.Proofs.YtombmdaohcjokaaGreatDoor
open Go.RowKit
theorem RepAll.lensAt {α:Type} {R:Rep α} {w:View} {css:List (List Value)} {xs:List α} (h:RepAll R w css xs) : ∀c∈css,c.length=R.size:=by
 induction css generalizing xs with
 |nil=>intro c hc;cases hc
 |cons d css ih=>cases xs with
  |nil=>exact h.elim
  |cons x xs =>
   intro c hc
   rcases List.mem_cons.1 hc with rfl | hc
   ·exact R.len h.1
   ·exact ih h.2 c hc
theorem RepAll.putAt {α:Type} {R:Rep α} {w:View} {css:List (List Value)} {xs:List α} (h:RepAll R w css xs) (i:Nat) {c:List Value} {y:α} (hc:R.holds w c y):RepAll R w (css.set i c) (xs.set i y):=by
 induction css generalizing xs i with
 |nil=>cases xs with
  |nil=>trivial
  |cons x xs=>exact h.elim
 |cons d css ih=>cases xs with
  |nil=>exact h.elim
  |cons x xs=>cases i with
   |zero=>exact⟨hc,h.2⟩
   |succ i=>exact⟨h.1,ih h.2 i⟩
theorem flat_setAt {n:Nat} : ∀(css:List (List Value)) (i j:Nat) (c:List Value) (u:Value),(∀c∈css,c.length=n)→css[i]?=some c→j<n→(css.set i (c.set j u)).flatten=css.flatten.set (i*n+j) u:=by
 intro css
 induction css with
 |nil=>intro i j c u _ h _;cases i <;> cases h
 |cons d css ih =>
  intro i j c u hl h hj
  have hd:=hl d (List.mem_cons_self ..)
  cases i with
  |zero =>
   obtain rfl:d=c:=by simpa using h
   rw [List.set_cons_zero,List.flatten_cons,List.flatten_cons,Nat.zero_mul,Nat.zero_add,List.set_append_left _ _ (by omega)]
  |succ i =>
   rw [List.set_cons_succ,List.flatten_cons,List.flatten_cons,ih i j c u (fun x hx=>hl x (List.mem_cons_of_mem _ hx)) (by simpa using h) hj,List.set_append_right _ _ (by rw [Nat.succ_mul];omega)]
   congr 2
   rw [Nat.succ_mul]
   omega
theorem own_setAt {w:World} {base:Nat} {e:TypeId} {size:Nat} {g n cap:Nat} {xs:List Value} (h:w.ownsRow base e size (.slice (some ⟨g,0,none⟩) n cap) n xs) (k:Nat) (u:Value):(w.setCell ⟨g,k,none⟩ u).ownsRow base e size (.slice (some ⟨g,0,none⟩) n cap) n (xs.set k u):=by
 obtain⟨h1,h2⟩:=h
 refine⟨by rw [List.length_set];exact h1,?_⟩
 rcases h2 with ⟨hv,_⟩ | ⟨g',cap',cur,hv,hb,hg,r1,r2,r3,r4⟩
 ·cases hv
 ·injection hv with e1 e2 e3
  injection e1 with e1
  injection e1 with e1
  subst e1 e3
  refine .inr ⟨g,cap,cur.setIfInBounds k u,rfl,hb,heap_setCell_same w g k cur e u hg,r1,r2,by rw [Array.size_setIfInBounds];exact r3,?_⟩
  rw [Array.toList_setIfInBounds,List.take_set,r4]
theorem OwnOf.storeAt {α:Type} {R:Rep α} {w:World} {S:Nat→Prop} {base:Nat} {e:TypeId} {g n cap:Nat} {xs:List α} (h:OwnOf R w S base e (.slice (some ⟨g,0,none⟩) n cap) xs) (i:Nat) (hi:i<xs.length) (j:Nat) (hj:j<R.size) (u:Value) (y:α) (hy : ∀(v:View) (c:List Value),R.holds v c xs[i]→R.holds v (c.set j u) y) :
  OwnOf R (w.setCell ⟨g,i*R.size+j,none⟩ u) S base e (.slice (some ⟨g,0,none⟩) n cap) (xs.set i y):=by
 obtain⟨css,h1,h2⟩:=h
 obtain⟨c,hc,hci,_⟩:=h1.at i hi
 have hn:n=xs.length:=by
  rcases h2.2 with ⟨hv,_⟩ | ⟨_,_,_,hv,_⟩
  ·cases hv
  ·injection hv
 subst hn
 have hk:i*R.size+j<css.flatten.length:=by
  rw [h1.flat]
  calc i*R.size+j<i*R.size+R.size:=by omega
   _=(i+1)*R.size:=by rw [Nat.succ_mul]
   _≤xs.length*R.size:=Nat.mul_le_mul_right _ hi
 refine⟨css.set i (c.set j u),(h1.ext (set_sub w ⟨g,i*R.size+j,none⟩ u (fun e=>e.1 rfl))).putAt i (R.ext (hy _ _ hc) (set_sub w ⟨g,i*R.size+j,none⟩ u (fun e=>e.1 rfl))),?_⟩
 rw [flat_setAt css i j c u h1.lensAt hci hj,List.length_set]
 exact own_setAt h2 _ u
theorem OwnOf.setFar {α:Type} {R:Rep α} {w:World} {S:Nat→Prop} {base:Nat} {e:TypeId} {v:Value} {xs:List α} (h:OwnOf R w S base e v xs) {p:Addr} (u:Value) (hv:v.ownBlock≠some p.block) (hS : ¬S p.block):OwnOf R (w.setCell p u) S base e v xs:=by
 obtain⟨css,h1,h2⟩:=h
 exact⟨css,h1.ext (set_sub w p u fun e=>hS e.2),ownsRow_setCell_other h2 hv u⟩
theorem OwnOf.free {α:Type} {R:Rep α} {w:World} {S:Nat→Prop} {base:Nat} {e:TypeId} {g n cap:Nat} {xs:List α} (h:OwnOf R w S base e (.slice (some ⟨g,0,none⟩) n cap) xs) (j:Nat):w.frozen? ⟨g,j,none⟩=false:=by
 obtain⟨css,_,_,h2⟩:=h
 rcases h2 with ⟨hv,_⟩ | ⟨g',cap',cur,hv,hb,hg,_⟩
 ·cases hv
 ·injection hv with e1 e2 e3
  injection e1 with e1
  injection e1 with e1
  subst e1
  exact frozen_of_row w g j cur e hg
end Go.Proofs.YtombmdaohcjokaaGreatDoor
namespace Go.Proofs.YtombmdaohcjokaaGreatDoor
open Go.RowKit
end Go.Proofs.YtombmdaohcjokaaGreatDoor
namespace Go.Proofs.YtombmdaohcjokaaGreatDoor
open Go.RowKit
theorem info_nodeN:(Tryz.prog.info? 64).map (fun i=>(i.zero,i.size,i.bytes))=some (some (.agg #[.int .i64 0,.int .i64 0,.int .i64 0,.int .i64 0,.string ByteArray.empty,.slice none 0 0,.slice none 0 0]),Rep.node.size,96):=by kernel_rfl
def scanCells:List Value:= [.int .i64 1,.int .i64 0,.int .i64 0,.int .i64 0,.string ⟨#[114]⟩,.slice none 0 0,.slice none 0 0,.int .i64 1,.int .i64 0,.int .i64 0,.int .i64 0,.string ⟨#[115]⟩,.slice none 0 0,.slice none 0 0]
theorem scan_rep (h:View):RepAll Rep.node h [[.int .i64 1,.int .i64 0,.int .i64 0,.int .i64 0,.string ⟨#[114]⟩,.slice none 0 0,.slice none 0 0],[.int .i64 1,.int .i64 0,.int .i64 0,.int .i64 0,.string ⟨#[115]⟩,.slice none 0 0,.slice none 0 0]] [scanR,scanS] :=
 ⟨⟨_,_,rfl,SliceOf.nil _ _,SliceOf.nil _ _,⟨⟨by decide,by decide⟩,⟨by decide,by decide⟩,⟨by decide,by decide⟩,⟨by decide,by decide⟩⟩,(show (⟨#[114]⟩:ByteArray).size≤maxLen by decide)⟩,⟨_,_,rfl,SliceOf.nil _ _,SliceOf.nil _ _,⟨⟨by decide,by decide⟩,⟨by decide,by decide⟩,⟨by decide,by decide⟩,⟨by decide,by decide⟩⟩,(show (⟨#[115]⟩:ByteArray).size≤maxLen by decide)⟩,trivial⟩
theorem scan_own (w:World) (S:Nat→Prop) (T:TypeId):OwnOf Rep.node (w.alloc (.cells #[.int .i64 1,.int .i64 0,.int .i64 0,.int .i64 0,.string ⟨#[114]⟩,.slice none 0 0,.slice none 0 0,.int .i64 1,.int .i64 0,.int .i64 0,.int .i64 0,.string ⟨#[115]⟩,.slice none 0 0,.slice none 0 0] T)) S w.heap.size T (.slice (some ⟨w.heap.size,0,none⟩) 2 2) [scanR,scanS]:=by
 refine⟨_,scan_rep _,rfl,.inr ⟨w.heap.size,2,_,rfl,Nat.le_refl _,heap_alloc_new w _,Nat.le_refl _,by simp [maxLen],rfl,rfl⟩⟩
def setUpto (pr:Int) (ns:List NodeI) (i:Nat):List NodeI:=(ns.take i).map (setPred pr)++ns.drop i
theorem setUpto_len (pr:Int) (ns:List NodeI) (i:Nat):(setUpto pr ns i).length=ns.length:=by
 unfold setUpto
 rw [List.length_append,List.length_map,List.length_take,List.length_drop]
 omega
theorem setUpto_get (pr:Int) (ns:List NodeI) (i:Nat) (hi:i<ns.length):(setUpto pr ns i)[i]'(by rw [setUpto_len];exact hi)=ns[i]:=by
 unfold setUpto
 rw [List.getElem_append_right (by rw [List.length_map,List.length_take];omega)]
 simp only [List.length_map,List.length_take,List.getElem_drop]
 congr 1
 omega
theorem setUpto_succ (pr:Int) (ns:List NodeI) (i:Nat) (hi:i<ns.length):(setUpto pr ns i).set i (setPred pr ns[i])=setUpto pr ns (i+1):=by
 unfold setUpto
 rw [List.set_append_right _ _ (by rw [List.length_map,List.length_take];omega),List.length_map,List.length_take,Nat.min_eq_left (by omega),Nat.sub_self,List.drop_eq_getElem_cons hi,List.set_cons_zero,List.take_succ_eq_append_getElem hi,List.map_append,List.append_assoc]
 rfl
theorem node_store (v:View) (c:List Value) (n:NodeI) (pr:Int) (hp:okI pr) (h:Rep.node.holds v c n):Rep.node.holds v (c.set 3 (.int .i64 pr)) (setPred pr n):=by
 obtain⟨ve,va,rfl,h1,h2,⟨k1,k2,k3,_⟩,h4⟩:=h
 exact⟨ve,va,rfl,h1,h2,⟨k1,k2,k3,hp⟩,h4⟩
theorem keepQ {W wa:World} {bx Q:Nat} {v0 v1 v2 v3 vq:Value} (h:Ext W wa∧wa.cell? ⟨bx,0,none⟩=some v0∧wa.cell? ⟨bx,1,none⟩=some v1∧wa.cell? ⟨bx,2,none⟩=some v2∧wa.cell? ⟨bx,3,none⟩=some v3∧wa.cell? ⟨Q,0,none⟩=some vq) (hQ:W.heap.size≤Q) (hb:Q≠bx) (u:Value) :
  Ext W (wa.setCell ⟨Q,1,none⟩ u)∧(wa.setCell ⟨Q,1,none⟩ u).cell? ⟨bx,0,none⟩=some v0∧(wa.setCell ⟨Q,1,none⟩ u).cell? ⟨bx,1,none⟩=some v1∧(wa.setCell ⟨Q,1,none⟩ u).cell? ⟨bx,2,none⟩=some v2∧(wa.setCell ⟨Q,1,none⟩ u).cell? ⟨bx,3,none⟩=some v3∧(wa.setCell ⟨Q,1,none⟩ u).cell? ⟨Q,0,none⟩=some vq :=
 ⟨Below.setCell h.1 hQ u,cell_set h.2.1 hb,cell_set h.2.2.1 hb,cell_set h.2.2.2.1 hb,cell_set h.2.2.2.2.1 hb,by rw [World.cell?_setCell_other _ _ _ _ (by simp)];exact h.2.2.2.2.2⟩
set_option maxRecDepth 100000 in
set_option maxHeartbeats 4000000 in
theorem nodes_any (v1:Value) (l:List NodeI) (p0 p1 p2 p3:Int) (w:World) (hv:SliceOf Rep.node w.cell? v1 l) (hl:l.length≤10) (h0:0≤p0∧p0≤65535) (h1:0≤p1∧p1≤65535) (h2:0≤p2∧p2≤65535) (h3:0≤p3∧p3≤65535) :
  Calls Tryz.prog 30 #[.agg #[.int .u16 p0,.int .u16 p1,.int .u16 p2,.int .u16 p3],v1] w fun e w'=> ∃vn ve,e = .returned (.agg #[vn,ve])∧SliceOf Rep.node w'.cell? vn (nodesQ p0 p1 p2 p3 l).nodes∧SliceOf Rep.expr w'.cell? ve (nodesQ p0 p1 p2 p3 l).exprs∧Ext w w':=by
 obtain⟨i0,hi,hz0,hz1,hz2⟩:=info_parts info_nodeN
 have HP:=Lib.hid (fun(v:Value) (wz:World) (hs:SliceOf Rep.int wz.cell? v [1,2])=>predicate_own (.slice none 0 0) [] v [1,2] p0 p1 p2 p3 wz.heap.size wz (OwnOf.nil _ _ _ _ _) (Nat.le_refl _) (hs.ext (fun p x e=>on_some.2 ⟨(fun h=>by cases h),e⟩)) (by decide) (by decide) (by decide) h0 h1 h2 h3)
 obtain⟨L,hL⟩ : ∃L,L=predE [1,2] p0 p1 p2 p3:=⟨_,rfl⟩
 have hL0:([]:List ExprI)++predL [1,2] p0 p1 p2 p3 ([]:List ExprI).length=L:=by rw [hL];rfl
 rw [hL0]at HP
 have hLl:L.length≤4:=by rw [hL];exact(predE_fit _ _ _ _ _).1
 obtain⟨nL,hnL⟩ : ∃z,z=L.length:=⟨_,rfl⟩
 have HLN:=Lib.hid hnL
 obtain⟨pr,hpr⟩ : ∃z:Int,z=((nL - 1:Nat):Int):=⟨_,rfl⟩
 have hprI:okI pr:=by unfold okI;omega
 have HQ:=Lib.hid (show (nodesQ p0 p1 p2 p3 l).nodes=setUpto pr ([scanR,scanS]++l) ([scanR,scanS]++l).length∧(nodesQ p0 p1 p2 p3 l).exprs=L from by
  refine⟨?_,hL.symm⟩
  unfold setUpto
  rw [List.take_length,List.drop_length,List.append_nil]
  show List.map (setPred (predI [1,2] p0 p1 p2 p3)) _=_
  have:predI [1,2] p0 p1 p2 p3=pr:=by rw [hpr,hnL,hL];rfl
  rw [this])
 rw [HQ.out.1,HQ.out.2]
 have HV:=Lib.hid hv
 have HPI:=Lib.hid hprI
 have HPR:=Lib.hid hpr
 obtain⟨pl,cl,rfl,_⟩:=hv.form
 obtain⟨n,hn⟩ : ∃z,z=l.length:=⟨_,rfl⟩
 have HN:=Lib.hid hn
 rw [←hn]at hl HV ⊢
 clear hv hn hL hL0 hpr hprI h0 h1 h2 h3 hLl hnL
 have B1:([scanR,scanS]:List NodeI).length+l.length≤maxLen:=by have:=HN.out;simp [maxLen];omega
 have B2:(([scanR,scanS]:List NodeI).length+l.length)*96≤140737488355328:=by have:=HN.out;simp;omega
 obtain⟨W1,hW1⟩ : ∃z,z=(w.alloc (.cells #[.int .u16 p0,.int .u16 p1,.int .u16 p2,.int .u16 p3] 70)).alloc (.cells #[.slice none 0 0,.slice none 0 0] 25):=⟨_,rfl⟩
 have hz1:W1.heap.size=w.heap.size+1+1:=by rw [hW1];simp
 have own0:=scan_own W1 (fun k=>k<w.heap.size) 64
 rw [hz1]at own0
 have x0:Ext w W1:=by rw [hW1];exact((Ext.refl w).alloc _).alloc _
 have HW:=Lib.hid (show W1.cell? ⟨w.heap.size,0,none⟩=some (.int .u16 p0)∧W1.cell? ⟨w.heap.size,1,none⟩=some (.int .u16 p1)∧W1.cell? ⟨w.heap.size,2,none⟩=some (.int .u16 p2)∧W1.cell? ⟨w.heap.size,3,none⟩=some (.int .u16 p3)∧W1.cell? ⟨w.heap.size+1,0,none⟩=some (.slice none 0 0)∧W1.cell? ⟨w.heap.size+1,1,none⟩=some (.slice none 0 0)∧W1.frozen? ⟨w.heap.size+1,0,none⟩=false∧W1.frozen? ⟨w.heap.size+1,1,none⟩=false from by
  rw [hW1]
  exact⟨(by go_simp),(by go_simp),(by go_simp),(by go_simp),(by go_simp),(by go_simp),(by go_simp),(by go_simp)⟩)
 obtain⟨W2,hW2⟩ : ∃z,z=W1.alloc (.cells #[.int .i64 1,.int .i64 0,.int .i64 0,.int .i64 0,.string ⟨#[114]⟩,.slice none 0 0,.slice none 0 0,.int .i64 1,.int .i64 0,.int .i64 0,.int .i64 0,.string ⟨#[115]⟩,.slice none 0 0,.slice none 0 0] 64):=⟨_,rfl⟩
 have x1:Ext W1 W2:=by rw [hW2];exact(Ext.refl _).alloc _
 have hz2:W2.heap.size=w.heap.size+1+1+1:=by rw [hW2];simp [hz1]
 rw [←hW2]at own0
 have HO0:=Lib.hid own0
 have X0:=Lib.hid x0
 have X1:=Lib.hid x1
 have HZ:=Lib.hid (And.intro hz1 hz2)
 rw [hW1]at hW2
 have HVV:=Lib.hid (show SliceOf Rep.node (on W2 (avoid (fun k=>k<w.heap.size) (.slice (some ⟨w.heap.size+1+1,0,none⟩) 2 2))) (.slice pl n cl) l from HV.out.ext (fun p u e=>on_some.2 ⟨⟨fun he=>by
  have h1:p.block=w.heap.size+1+1:=Option.some.inj he
  have h2:=World.block_lt_of_cell? w p e
  omega,World.block_lt_of_cell? w p e⟩,(x0.trans x1).at e⟩))
 have HBA:=Lib.hid (show w.heap.size+1+1≤W2.heap.size from by omega)
 clear own0 x0 x1 hz1 hz2
 go_enter Tryz.func30,Tryz.ntmps30
 go_wp2_with (at_builtin;rw [←hW2];go_loud (refine wpList_append_all Rep.node (fun k=>k<w.heap.size) rfl _ _ 22 rfl (w.heap.size+1+1) 64 i0 _ 96 Tryz.underlying22 hi hz0 hz1 hz2 rfl (by decide) (.slice (some ⟨w.heap.size+1+1,0,none⟩) 2 2) [scanR,scanS] rfl HO0.out (.slice pl n cl) l rfl HVV.out B1 B2 HBA.out ?_))
 intro v1 w1 own1 gr1 _
 rw [←hW2]at gr1
 replace own1:OwnOf Rep.node w1 (fun k=>k<w.heap.size) (w.heap.size+1+1) 64 v1 ([scanR,scanS]++l):=own1
 obtain⟨ns,hns⟩ : ∃z,z = [scanR,scanS]++l:=⟨_,rfl⟩
 rw [←hns]at own1
 have HNS:=Lib.hid hns
 have hnl:ns.length=n+2:=by rw [hns,List.length_append,HN.out];simp;omega
 rcases own1.form with ⟨_,h⟩ | ⟨g,cap,rfl,hg1,hg2,hg3⟩
 ·rw [h]at hnl;simp at hnl
 obtain⟨N,hNN⟩ : ∃z,z=ns.length:=⟨_,rfl⟩
 rw [←hNN]at own1 hnl hg2 ⊢
 have HNL:=Lib.hid (And.intro hNN hnl)
 have hN12:N≤12:=by omega
 have x01:Ext w W2:=X0.out.trans X1.out
 have hne : ∀k,(Value.slice (some ⟨w.heap.size+1+1,0,none⟩) 2 2).ownBlock=some k→w.heap.size+1+1=k:=fun k hk=>Option.some.inj hk
 have x1:Ext w w1:=ext_grown x01 gr1 (fun k hk=>by have:=hne k hk;omega)
 have c0:=cell_grown gr1 (X1.out.at HW.out.1) (fun k hk=>by have:=hne k hk;omega)
 have c1:=cell_grown gr1 (X1.out.at HW.out.2.1) (fun k hk=>by have:=hne k hk;omega)
 have c2:=cell_grown gr1 (X1.out.at HW.out.2.2.1) (fun k hk=>by have:=hne k hk;omega)
 have c3:=cell_grown gr1 (X1.out.at HW.out.2.2.2.1) (fun k hk=>by have:=hne k hk;omega)
 have r0:=cell_grown gr1 (X1.out.at HW.out.2.2.2.2.1) (fun k hk=>by have:=hne k hk;omega)
 have r1:=cell_grown gr1 (X1.out.at HW.out.2.2.2.2.2.1) (fun k hk=>by have:=hne k hk;omega)
 have f0:=frozen_grown gr1 (X1.out.at HW.out.2.2.2.2.1) (X1.out.unfrozen HW.out.2.2.2.2.1 HW.out.2.2.2.2.2.2.1) (fun k hk=>by have:=hne k hk;omega)
 have f1:=frozen_grown gr1 (X1.out.at HW.out.2.2.2.2.2.1) (X1.out.unfrozen HW.out.2.2.2.2.2.1 HW.out.2.2.2.2.2.2.2) (fun k hk=>by have:=hne k hk;omega)
 obtain⟨bx,hbx⟩ : ∃z,z=w.heap.size:=⟨_,rfl⟩
 rw [←hbx]at c0 c1 c2 c3 r0 r1 f0 f1 own1 hg1 ⊢
 have HOW:=Lib.hid own1
 have HX1:=Lib.hid x1
 have HBX:=Lib.hid hbx
 have e0:=cell_lt c0
 have e1:=cell_lt r0
 clear hW2 gr1 hns hNN hnl own1 x01 hne x1 HO0 HVV HBA X0 X1 HW HZ hbx B1 B2 hg3
 go_wp2_with fail
 obtain⟨Q,hQ⟩ : ∃z,z=w1.heap.size:=⟨_,rfl⟩
 obtain⟨W3,hW3⟩ : ∃z,z=w1.alloc (.cells #[.slice (some ⟨g,0,none⟩) N cap,.slice none 0 0] 25):=⟨_,rfl⟩
 have x13:Ext w1 W3:=by rw [hW3];exact(Ext.refl _).alloc _
 have q0:W3.cell? ⟨Q,0,none⟩=some (.slice (some ⟨g,0,none⟩) N cap):=by rw [hW3,hQ];go_simp
 have q1:W3.cell? ⟨Q,1,none⟩=some (.slice none 0 0):=by rw [hW3,hQ];go_simp
 have fq:W3.frozen? ⟨Q,1,none⟩=false:=by rw [hW3,hQ];go_simp
 rw [←hW3]
 try rw [←hQ]
 replace c0:=x13.at c0
 replace c1:=x13.at c1
 replace c2:=x13.at c2
 replace c3:=x13.at c3
 have RR:=Lib.hid (show W3.cell? ⟨bx+1,0,none⟩=some (.slice none 0 0)∧W3.cell? ⟨bx+1,1,none⟩=some (.slice none 0 0)∧W3.frozen? ⟨bx+1,0,none⟩=false∧W3.frozen? ⟨bx+1,1,none⟩=false from ⟨x13.at r0,x13.at r1,x13.unfrozen r0 f0,x13.unfrozen r1 f1⟩)
 have HQB:=Lib.hid (show bx+1<Q∧g<Q∧w.heap.size=bx∧bx+1+1≤g from by
  have h1:=cell_lt r0
  have h2:=(HOW.out.lt g rfl).2
  exact⟨by omega,by omega,HBX.out.symm,hg1⟩)
 have hQw:w.heap.size≤Q:=by have:=HQB.out;omega
 have hbQ:Q≠bx:=by have:=HQB.out;omega
 have HX3:=Lib.hid (HX1.out.trans x13)
 have HO3:=Lib.hid (show OwnOf Rep.node W3 (fun k=>k<bx) (bx+1+1) 64 (.slice (some ⟨g,0,none⟩) N cap) ns from HOW.out.ext x13)
 have hS0:Ext w W3.drew∧W3.drew.cell? ⟨bx,0,none⟩=some (.int .u16 p0)∧W3.drew.cell? ⟨bx,1,none⟩=some (.int .u16 p1)∧W3.drew.cell? ⟨bx,2,none⟩=some (.int .u16 p2)∧W3.drew.cell? ⟨bx,3,none⟩=some (.int .u16 p3)∧W3.drew.cell? ⟨Q,0,none⟩=some (.slice (some ⟨g,0,none⟩) N cap):=⟨HX3.out.drew,c0,c1,c2,c3,q0⟩
 have hF:=Lib.hid (And.intro q1 fq)
 have e2:=cell_lt q0
 clear hW3 hQ x13 r0 r1 f0 f1 e0 e1 HX1 HOW HBX hg1 c0 c1 c2 c3 q0 q1 fq
 go_region_held3 (fun w'=>Ext w w'∧w'.cell? ⟨bx,0,none⟩=some (.int .u16 p0)∧w'.cell? ⟨bx,1,none⟩=some (.int .u16 p1)∧w'.cell? ⟨bx,2,none⟩=some (.int .u16 p2)∧w'.cell? ⟨bx,3,none⟩=some (.int .u16 p3)∧w'.cell? ⟨Q,0,none⟩=some (.slice (some ⟨g,0,none⟩) N cap))
  (first |with_reducible assumption | with_reducible exact K7 | with_reducible exact K4 | with_reducible exact keepQ K7 hQw hbQ _)
  (first
   |(go_at_call 34;(with_reducible have q4:=O4.out);refine(HP.out _ _ q4.slice).mono ?_;rintro e w7 ⟨u7,rfl,o7,c7,_⟩;obtain⟨pu,cu,hu,-⟩:=o7.slice.form;rw [←HLN.out]at hu ⊢;subst hu;have x7:Ext w4 w7:=Chg.below c7 (Ext.refl w4) (fun k e=>by cases e);have K7:=keepE5 K4 x7;have O7:=Lib.hid o7;have y1:=x7.at (X4.out.at hF.out.1);have y2:=x7.unfrozen (X4.out.at hF.out.1) (X4.out.unfrozen hF.out.1 hF.out.2);have e7:=cell_lt y1;have X7:=Lib.hid x7)
   |(go_at_call 35;refine(kinds_own (fun _=>True) _).mono ?_;rintro e w4 ⟨g4,rfl,o4,x4⟩;have O4:=Lib.hid o4;have X4:=Lib.hid (show Ext W3 w4 from (Ext.refl _).drew.trans x4);have K4:=keepE5 hS0 x4;clear o4)
   |fail)
 rw [←HPR.out]
 obtain⟨W8,hW8⟩ : ∃z,z=w7.setCell ⟨Q,1,none⟩ (.slice pu nL cu):=⟨_,rfl⟩
 have K8:=keepQ K7 hQw hbQ (.slice pu nL cu)
 have x37:Ext W3 w7:=X4.out.trans X7.out
 have hQ4:Q<w4.heap.size:=cell_lt (X4.out.at hF.out.1)
 have q1:W8.cell? ⟨Q,1,none⟩=some (.slice pu nL cu):=by rw [hW8];go_simp
 have HO8:=Lib.hid (show OwnOf Rep.node W8 (fun k=>k<bx) (bx+1+1) 64 (.slice (some ⟨g,0,none⟩) N cap) (setUpto pr ns 0)from by
  rw [hW8]
  exact(HO3.out.ext x37).setFar _ (fun e=>by have e:g=Q:=Option.some.inj e;have:=HQB.out;omega) (fun e=>by have e:Q<bx:=e;have:=HQB.out;omega))
 have hfl:Rep.expr.flat:=fun _ _ _ _ h=>h
 have HE8:=Lib.hid (show OwnOf Rep.expr W8 (fun _=>True) w4.heap.size 66 (.slice pu nL cu) L from by
  rw [hW8]
  exact O7.out.chg hfl (chg_set w7 ⟨Q,1,none⟩ _) (fun k hk e=>by have h1:=(O7.out.lt k hk).1;have e:k=Q:=e;omega))
 have RR8:=Lib.hid (show W8.cell? ⟨bx+1,0,none⟩=some (.slice none 0 0)∧W8.cell? ⟨bx+1,1,none⟩=some (.slice none 0 0)∧W8.frozen? ⟨bx+1,0,none⟩=false∧W8.frozen? ⟨bx+1,1,none⟩=false from by
  have hq:Q≠bx+1:=by have:=HQB.out;omega
  rw [hW8]
  exact⟨cell_set (x37.at RR.out.1) hq,cell_set (x37.at RR.out.2.1) hq,(frozen_set _ _ _ _).trans (x37.unfrozen RR.out.1 RR.out.2.2.1),(frozen_set _ _ _ _).trans (x37.unfrozen RR.out.2.1 RR.out.2.2.2)⟩)
 have HG4:=Lib.hid (show g<w4.heap.size∧bx+1<w4.heap.size∧Q<w4.heap.size from by have:=HQB.out;omega)
 rw [←hW8]at K8 ⊢
 have q0:=K8.2.2.2.2.2
 have HX8:=Lib.hid K8.1
 have e8:=cell_lt q0
 clear hS0 K8 K7 K4 y1 y2 e7 hW8 x37 hQ4 o7 c7 X7 X4 O7 O4 x7 e2 HO3 hF RR HP HPR HX3 hfl x4
 go_wp2_with fail
 go_loopg [24] N (fun gk vi wr=> ∃(i:Nat),i≤N∧gk=N - i∧vi = .int .i64 i∧Hid (OwnOf Rep.node wr (fun k=>k<bx) (bx+1+1) 64 (.slice (some ⟨g,0,none⟩) N cap) (setUpto pr ns i))∧Hid (OwnOf Rep.expr wr (fun _=>True) w4.heap.size 66 (.slice pu nL cu) L)∧Hid (wr.cell? ⟨bx+1,0,none⟩=some (.slice none 0 0)∧wr.cell? ⟨bx+1,1,none⟩=some (.slice none 0 0)∧wr.frozen? ⟨bx+1,0,none⟩=false∧wr.frozen? ⟨bx+1,1,none⟩=false)∧wr.cell? ⟨Q,0,none⟩=some (.slice (some ⟨g,0,none⟩) N cap)∧wr.cell? ⟨Q,1,none⟩=some (.slice pu nL cu)∧Hid (Ext w wr))
 case atStart=>exact⟨0,by omega,rfl,rfl,HO8.out,HE8.out,RR8.out,q0,q1,HX8.out⟩
 case round =>
  clear q0 q1 e8 HO8 HE8 RR8 HX8
  obtain⟨i,hi,rfl,rfl,HO,HE,RR,q0,q1,HX⟩:=hrel
  have e0:=cell_lt q0
  by_cases hlt:i<N
  ·have hd:decide ((i:Int)<(N:Int))=true:=by simp;omega
   have hil:i<ns.length:=by have:=HNL.out.1;omega
   have hix:(i:Int)<(N:Int):=by omega
   have hfr:=HO.out.free (i*7+3)
   obtain⟨_,_,-,-,-,h3,-⟩:=node_at HO.out.slice i (by rw [setUpto_len];exact hil)
   rw [Nat.zero_add]at h3
   obtain⟨pv,hpv⟩ : ∃z,z=((setUpto pr ns i)[i]'(by rw [setUpto_len];exact hil)).pred:=⟨_,rfl⟩
   rw [←hpv]at h3
   have hst:=HO.out.storeAt i (by rw [setUpto_len];exact hil) 3 (by decide) (.int .i64 pr) (setPred pr ns[i]) (fun v c hc=>node_store v c _ pr HPI.out (by rwa [setUpto_get pr ns i hil]at hc))
   rw [setUpto_succ]at hst
   have HST:=Lib.hid hst
   clear hpv hst
   have hgq:g≠Q∧g≠bx+1∧w.heap.size≤g∧g<w4.heap.size:=by have:=HQB.out;have:=HG4.out;omega
   have HGQ:=Lib.hid hgq
   clear hgq
   go_wp2_with fail
   go_roundg (N - (i+1))
   case measure=>omega
   case rel =>
    have hfl:Rep.expr.flat:=fun _ _ _ _ h=>h
    exact⟨i+1,by omega,rfl,by go_num,HST.out,HE.out.chg hfl (chg_set wr ⟨g,i*7+3,none⟩ _) (fun k hk e=>by have h1:=(HE.out.lt k hk).1;have h2:=HGQ.out;have e:k=g:=e;omega),⟨cell_set RR.out.1 HGQ.out.2.1,cell_set RR.out.2.1 HGQ.out.2.1,(frozen_set _ _ _ _).trans RR.out.2.2.1,(frozen_set _ _ _ _).trans RR.out.2.2.2⟩,cell_set q0 HGQ.out.1,cell_set q1 HGQ.out.1,Below.setCell HX.out HGQ.out.2.2.1 _⟩
  ·have hin:i=N:=by omega
   have hd:decide ((i:Int)<(N:Int))=false:=by simp;omega
   obtain⟨r0,r1,f0,f1⟩:=RR.out
   have hbq:w.heap.size≤bx+1∧bx+1<Q∧bx+1<g∧bx+1<w4.heap.size:=by have:=HQB.out;have:=HG4.out;omega
   have HBQ:=Lib.hid hbq
   have HIN:=Lib.hid hin
   clear hin hbq
   go_wp2_with fail
   refine bodyPost_ret (v:= .agg #[.slice (some ⟨g,0,none⟩) N cap,.slice pu nL cu]) ?_ rfl ⟨_,_,rfl,?_,?_,?_⟩
   ·simp [results,Tryz.results30,go_sem,r0,r1]
   ·have h:=(HO.out.setFar (p:=⟨bx+1,0,none⟩) (.slice (some ⟨g,0,none⟩) N cap) (fun e=>by have e:g=bx+1:=Option.some.inj e;have:=HBQ.out;omega) (fun e=>by have e:bx+1<bx:=e;omega)).setFar (p:=⟨bx+1,1,none⟩) (.slice pu nL cu) (fun e=>by have e:g=bx+1:=Option.some.inj e;have:=HBQ.out;omega) (fun e=>by have e:bx+1<bx:=e;omega)
    have h2:=h.slice
    rw [HIN.out,HNL.out.1,HNS.out]at h2
    rw [HNL.out.1,HNS.out]
    exact h2
   ·have hfl:Rep.expr.flat:=fun _ _ _ _ h=>h
    have hne : ∀k,(Value.slice pu nL cu).ownBlock=some k→ ¬k=bx+1:=fun k hk e=>by have h1:=(HE.out.lt k hk).1;have:=HBQ.out;omega
    exact((HE.out.chg hfl (chg_set wr ⟨bx+1,0,none⟩ (.slice (some ⟨g,0,none⟩) N cap)) hne).chg hfl (chg_set _ ⟨bx+1,1,none⟩ (.slice pu nL cu)) hne).slice
   ·exact Below.setCell (Below.setCell HX.out HBQ.out.1 _) HBQ.out.1 _
end Go.Proofs.YtombmdaohcjokaaGreatDoor
namespace Go.Proofs.YtombmdaohcjokaaGreatDoor
open Go.RowKit
theorem op_holds (h:View) (k:Int) (a b:Nat) (hk:okI k) (ha:a≤1000) (hb:b≤1000):Rep.node.holds h [.int .i64 k,.int .i64 (a:Int),.int .i64 (b:Int),.int .i64 0,.string ⟨#[]⟩,.slice none 0 0,.slice none 0 0] (opN k a b) :=
 ⟨_,_,rfl,SliceOf.nil _ _,SliceOf.nil _ _,⟨hk,by unfold okI opN;dsimp only;omega,by unfold okI opN;dsimp only;omega,okI_small (z:=0) (by decide)⟩,(show (⟨#[]⟩:ByteArray).size≤maxLen by decide)⟩
theorem op_lit1 (w:World) (k:Int) (a b:Nat) (hk:okI k) (ha:a≤1000) (hb:b≤1000):SliceOf Rep.node (w.alloc (.cells #[.int .i64 k,.int .i64 (a:Int),.int .i64 (b:Int),.int .i64 0,.string ⟨#[]⟩,.slice none 0 0,.slice none 0 0] 64)).cell? (.slice (some ⟨w.heap.size,0,none⟩) 1 1) [opN k a b] :=
 slice_lit Rep.node w [.int .i64 k,.int .i64 (a:Int),.int .i64 (b:Int),.int .i64 0,.string ⟨#[]⟩,.slice none 0 0,.slice none 0 0] 64 [[.int .i64 k,.int .i64 (a:Int),.int .i64 (b:Int),.int .i64 0,.string ⟨#[]⟩,.slice none 0 0,.slice none 0 0]] [opN k a b] rfl ⟨op_holds _ k a b hk ha hb,trivial⟩ (by simp [maxLen])
theorem bal_law (x y d m u:List Row) (hd:d=sortBy cmpRow (opP 7 x y)) (hm:m=sortBy cmpRow (opP 8 x y)) (hu:u=sortBy cmpRow (opP 6 x y)):(∀v,mult v d+mult v m=mult v x∧mult v u=mult v x+mult v y)∧u.length=x.length+y.length∧d.length+m.length=x.length:=by
 have pd:=sortBy_perm cmpRow (opP 7 x y)
 have pm:=sortBy_perm cmpRow (opP 8 x y)
 have pu:=sortBy_perm cmpRow (opP 6 x y)
 rw [←hd]at pd
 rw [←hm]at pm
 rw [←hu]at pu
 refine⟨fun v=>⟨?_,?_⟩,?_,?_⟩
 ·rw [mult_perm v pd,mult_perm v pm]
  exact bal_mult x y v
 ·rw [mult_perm v pu]
  exact mult_append v x y
 ·rw [pu.length_eq]
  exact List.length_append
 ·rw [pd.length_eq,pm.length_eq]
  exact bal_len x y
theorem wrap_nat (a b c:Nat) (h:a+b=c) (hc:c≤1000):IntKind.i64.wrap ((a:Int)+(b:Int))=(c:Int):=by
 rw [show (a:Int)+(b:Int)=(c:Int)by omega]
 exact Go.IntWalk.i64_in _ (by omega)
set_option maxRecDepth 100000 in
set_option maxHeartbeats 4000000 in
theorem AlgebraBalance_walk (v0:Value) (x:List Num5) (v1:Value) (y:List Num5) {w:World} (s0:SliceOf Rep.num w.cell? v0 x) (s1:SliceOf Rep.num w.cell? v1 y) (hT:TabW w) :
  Calls Tryz.prog 9 #[v0,v1] w fun e w'=>e = .returned (.bool true)∧Ext w w':=by
 have S0:=Lib.hid s0
 have S1:=Lib.hid s1
 obtain⟨p0,q0,rfl,_⟩:=s0.form
 obtain⟨p1,q1,rfl,_⟩:=s1.form
 have HT:=Lib.hid hT
 clear s0 s1 hT
 go_enter Tryz.func9,Tryz.ntmps9
 go_wp2_with fail
 refine(rows_gen _ x 8 (by decide) _ S0.out).mono ?_
 rintro e w1 ⟨u1,rfl,t1,x1⟩
 have la:=genRows_len x 8
 have ra:=gen_rowP x 8
 generalize genRows x 8=a at t1 la ra
 obtain⟨pa,ca,rfl,-⟩:=t1.form
 have SA:=Lib.hid t1
 have X1:=Lib.hid x1
 have HA:=Lib.hid (And.intro la ra)
 obtain⟨na,hna⟩ : ∃z,z=a.length:=⟨_,rfl⟩
 rw [←hna]at SA ⊢
 have HNA:=Lib.hid hna
 clear t1 x1 la ra S0 hna
 go_wp2_with fail
 refine(rows_gen _ y 8 (by decide) _ (S1.out.ext X1.out.full)).mono ?_
 rintro e w2 ⟨u2,rfl,t2,x2⟩
 have lb:=genRows_len y 8
 have rb:=gen_rowP y 8
 generalize genRows y 8=b at t2 lb rb
 obtain⟨pb,cb,rfl,-⟩:=t2.form
 have SB:=Lib.hid t2
 replace SA:=Lib.hid (SA.out.ext x2.full)
 have X2:=Lib.hid (X1.out.trans x2)
 have HB:=Lib.hid (And.intro lb rb)
 obtain⟨nb,hnb⟩ : ∃z,z=b.length:=⟨_,rfl⟩
 rw [←hnb]at SB ⊢
 have HNB:=Lib.hid hnb
 clear t2 x2 lb rb S1 X1 hnb
 go_wp2_with fail
 refine(rowdb_any _ _ a b _ SA.out SB.out).mono ?_
 rintro e w3 ⟨u3,rfl,t3,x3⟩
 obtain⟨r3,k3,rfl,_⟩:=t3.form
 have hdl:(dbA a b).length=2:=rfl
 rw [hdl]at t3 ⊢
 have DB:=Lib.hid t3
 replace SA:=Lib.hid (SA.out.ext x3.full)
 replace SB:=Lib.hid (SB.out.ext x3.full)
 have X3:=Lib.hid (X2.out.trans x3)
 have HRUN:=Lib.hid (fun k hk=>run_op 0 0 0 0 k hk a b HA.out.2 HB.out.2 (by have:=HA.out.1;omega) (by have:=HB.out.1;omega))
 clear t3 x3 X2 hdl
 go_wp2_with fail
 have y7:=(Ext.refl w3).alloc (.cells #[.int .i64 7,.int .i64 0,.int .i64 1,.int .i64 0,.string ⟨#[]⟩,.slice none 0 0,.slice none 0 0] 64)
 refine(nodes_any _ [opN 7 0 1] 0 0 0 0 _ (op_lit1 w3 7 0 1 ⟨by decide,by decide⟩ (by decide) (by decide)) (by decide) (by decide) (by decide) (by decide) (by decide)).mono ?_
 rintro e w7n ⟨vn7,ve7,rfl,sn7,se7,xn7⟩
 have SN7:=Lib.hid sn7
 have SE7:=Lib.hid se7
 have X7n:=Lib.hid (y7.trans xn7)
 clear sn7 se7 xn7 y7
 go_wp2_with fail
 refine(eval_query (nodesQ 0 0 0 0 [opN 7 0 1]) (dbA a b) _ _ _ _ SN7.out SE7.out (DB.out.ext X7n.out.full) (by simp [dbA]) (fitQ_nodes 0 0 0 0 _ (by simp [opN])) (HRUN.out 7 (by decide)).2 (HT.out.ext (X3.out.trans X7n.out))).mono ?_
 rintro e w4 ⟨ur7,rfl,tr7,xr7⟩
 rw [(HRUN.out 7 (by decide)).1]at tr7 ⊢
 dsimp only at tr7 ⊢
 obtain⟨d,hd⟩ : ∃z,z=sortBy cmpRow (opP 7 a b):=⟨_,rfl⟩
 rw [←hd]at tr7
 have HD:=Lib.hid hd
 obtain⟨pd,cd,rfl,-,-,hpd⟩:=tr7.form
 obtain⟨nd,hnd⟩ : ∃z,z=d.length:=⟨_,rfl⟩
 rw [←hnd]at tr7 hpd ⊢
 have HPD:=Lib.hid hpd
 have HND:=Lib.hid hnd
 have SD:=Lib.hid tr7
 have xw4:=X7n.out.trans xr7
 have X4:=Lib.hid (X3.out.trans xw4)
 replace SA:=Lib.hid (SA.out.ext xw4.full)
 replace SB:=Lib.hid (SB.out.ext xw4.full)
 replace DB:=Lib.hid (DB.out.ext xw4.full)
 clear tr7 xr7 hd hnd hpd xw4 SN7 SE7 X7n X3
 go_wp2_with fail
 have y8:=(Ext.refl w4).alloc (.cells #[.int .i64 8,.int .i64 0,.int .i64 1,.int .i64 0,.string ⟨#[]⟩,.slice none 0 0,.slice none 0 0] 64)
 refine(nodes_any _ [opN 8 0 1] 0 0 0 0 _ (op_lit1 w4 8 0 1 ⟨by decide,by decide⟩ (by decide) (by decide)) (by decide) (by decide) (by decide) (by decide) (by decide)).mono ?_
 rintro e w8n ⟨vn8,ve8,rfl,sn8,se8,xn8⟩
 have SN8:=Lib.hid sn8
 have SE8:=Lib.hid se8
 have X8n:=Lib.hid (y8.trans xn8)
 clear sn8 se8 xn8 y8
 go_wp2_with fail
 refine(eval_query (nodesQ 0 0 0 0 [opN 8 0 1]) (dbA a b) _ _ _ _ SN8.out SE8.out (DB.out.ext X8n.out.full) (by simp [dbA]) (fitQ_nodes 0 0 0 0 _ (by simp [opN])) (HRUN.out 8 (by decide)).2 (HT.out.ext (X4.out.trans X8n.out))).mono ?_
 rintro e w5 ⟨ur8,rfl,tr8,xr8⟩
 rw [(HRUN.out 8 (by decide)).1]at tr8 ⊢
 dsimp only at tr8 ⊢
 obtain⟨m,hm⟩ : ∃z,z=sortBy cmpRow (opP 8 a b):=⟨_,rfl⟩
 rw [←hm]at tr8
 have HMM:=Lib.hid hm
 obtain⟨pm,cm,rfl,-,-,hpm⟩:=tr8.form
 obtain⟨nm,hnm⟩ : ∃z,z=m.length:=⟨_,rfl⟩
 rw [←hnm]at tr8 hpm ⊢
 have HPM:=Lib.hid hpm
 have HNM:=Lib.hid hnm
 have SM:=Lib.hid tr8
 have xw5:=X8n.out.trans xr8
 have X5:=Lib.hid (X4.out.trans xw5)
 replace SA:=Lib.hid (SA.out.ext xw5.full)
 replace SB:=Lib.hid (SB.out.ext xw5.full)
 replace DB:=Lib.hid (DB.out.ext xw5.full)
 replace SD:=Lib.hid (SD.out.ext xw5.full)
 clear tr8 xr8 hm hnm hpm xw5 SN8 SE8 X8n X4
 go_wp2_with fail
 have y6:=(Ext.refl w5).alloc (.cells #[.int .i64 6,.int .i64 0,.int .i64 1,.int .i64 0,.string ⟨#[]⟩,.slice none 0 0,.slice none 0 0] 64)
 refine(nodes_any _ [opN 6 0 1] 0 0 0 0 _ (op_lit1 w5 6 0 1 ⟨by decide,by decide⟩ (by decide) (by decide)) (by decide) (by decide) (by decide) (by decide) (by decide)).mono ?_
 rintro e w6n ⟨vn6,ve6,rfl,sn6,se6,xn6⟩
 have SN6:=Lib.hid sn6
 have SE6:=Lib.hid se6
 have X6n:=Lib.hid (y6.trans xn6)
 clear sn6 se6 xn6 y6
 go_wp2_with fail
 refine(eval_query (nodesQ 0 0 0 0 [opN 6 0 1]) (dbA a b) _ _ _ _ SN6.out SE6.out (DB.out.ext X6n.out.full) (by simp [dbA]) (fitQ_nodes 0 0 0 0 _ (by simp [opN])) (HRUN.out 6 (by decide)).2 (HT.out.ext (X5.out.trans X6n.out))).mono ?_
 rintro e w6 ⟨ur6,rfl,tr6,xr6⟩
 rw [(HRUN.out 6 (by decide)).1]at tr6 ⊢
 dsimp only at tr6 ⊢
 obtain⟨u,hu⟩ : ∃z,z=sortBy cmpRow (opP 6 a b):=⟨_,rfl⟩
 rw [←hu]at tr6
 have HU:=Lib.hid hu
 obtain⟨pu,cu,rfl,-,-,hpu⟩:=tr6.form
 obtain⟨nu,hnu⟩ : ∃z,z=u.length:=⟨_,rfl⟩
 rw [←hnu]at tr6 hpu ⊢
 have HPU:=Lib.hid hpu
 have HNU:=Lib.hid hnu
 have SU:=Lib.hid tr6
 have xw6:=X6n.out.trans xr6
 have X6:=Lib.hid (X5.out.trans xw6)
 replace SA:=Lib.hid (SA.out.ext xw6.full)
 replace SB:=Lib.hid (SB.out.ext xw6.full)
 replace DB:=Lib.hid (DB.out.ext xw6.full)
 replace SD:=Lib.hid (SD.out.ext xw6.full)
 replace SM:=Lib.hid (SM.out.ext xw6.full)
 clear tr6 xr6 hu hnu hpu xw6 SN6 SE6 X6n X5
 have HL:=Lib.hid (bal_law a b d m u HD.out HMM.out HU.out)
 have bd8:na≤8:=by have:=HNA.out;have:=HA.out.1;omega
 have bb8:nb≤8:=by have:=HNB.out;have:=HB.out.1;omega
 have hnu:=HL.out.2.1
 have hndm:=HL.out.2.2
 rw [←HNU.out,←HNA.out,←HNB.out]at hnu
 rw [←HND.out,←HNM.out,←HNA.out]at hndm
 have HNN:=Lib.hid (And.intro hnu hndm)
 have hw9:IntKind.i64.wrap ((na:Int)+(nb:Int))=(nu:Int):=wrap_nat _ _ _ hnu.symm (by omega)
 have hw8:IntKind.i64.wrap ((nd:Int)+(nm:Int))=(na:Int):=wrap_nat _ _ _ hndm (by omega)
 have bu16:nu≤16:=by omega
 clear hnu hndm
 go_wp2_with fail
 go_loopg [52] nu (fun gk i wr=> ∃j:Nat,j≤nu∧gk=nu - j∧i = .int .i64 j∧Ext w6 wr)
 case atStart=>exact⟨0,by omega,rfl,rfl,Ext.refl _⟩
 case round =>
  obtain⟨j,hj,rfl,rfl,hx⟩:=hrel
  by_cases hlt:j<nu
  ·have hd:decide ((j:Int)<(nu:Int))=true:=by simp;omega
   have hjl:j<u.length:=by have:=HNU.out;omega
   obtain⟨ba,oa,rfl⟩:=HPU.out (by decide) (by omega)
   obtain⟨ua,va,d0,d1,su,sv⟩:=row_at SU.out j hjl
   obtain⟨vs,hvs⟩ : ∃z,z=u[j].vals:=⟨_,rfl⟩
   rw [←hvs]at su
   obtain⟨pv,cv,rfl,-⟩:=su.form
   obtain⟨pl,cl,rfl,-⟩:=sv.form
   obtain⟨lv,hlv⟩ : ∃z,z=u[j].lin.length:=⟨_,rfl⟩
   rw [←hlv]at d1
   obtain⟨nv,hnv⟩ : ∃z,z=vs.length:=⟨_,rfl⟩
   rw [←hnv]at d0 su
   replace d0:=hx.at d0
   replace d1:=hx.at d1
   have e0:=cell_lt d0
   have HX:=Lib.hid hx
   have SV:=Lib.hid (su.ext hx.full)
   obtain⟨M1,hM1⟩ : ∃z,z=mult vs d:=⟨_,rfl⟩
   obtain⟨M2,hM2⟩ : ∃z,z=mult vs m:=⟨_,rfl⟩
   obtain⟨M3,hM3⟩ : ∃z,z=mult vs a:=⟨_,rfl⟩
   obtain⟨M4,hM4⟩ : ∃z,z=mult vs u:=⟨_,rfl⟩
   obtain⟨M5,hM5⟩ : ∃z,z=mult vs b:=⟨_,rfl⟩
   have hms:=HL.out.1 vs
   rw [←hM1,←hM2,←hM3,←hM4,←hM5]at hms
   have hb3:M3≤8:=by rw [hM3];have:=mult_len vs a;have:=HA.out.1;omega
   have hb5:M5≤8:=by rw [hM5];have:=mult_len vs b;have:=HB.out.1;omega
   have hw1:IntKind.i64.wrap ((M1:Int)+(M2:Int))=(M3:Int):=wrap_nat _ _ _ hms.1 (by omega)
   have hw2:IntKind.i64.wrap ((M3:Int)+(M5:Int))=(M4:Int):=wrap_nat _ _ _ hms.2.symm (by omega)
   have HM1:=Lib.hid hM1
   have HM2:=Lib.hid hM2
   have HM3:=Lib.hid hM3
   have HM4:=Lib.hid hM4
   have HM5:=Lib.hid hM5
   have FD:=Lib.hid (show SliceOf Rep.row wr.cell? (.slice pd nd cd) d from SD.out.ext hx.full)
   have FM:=Lib.hid (show SliceOf Rep.row wr.cell? (.slice pm nm cm) m from SM.out.ext hx.full)
   have FA:=Lib.hid (show SliceOf Rep.row wr.cell? (.slice pa na ca) a from SA.out.ext hx.full)
   have FB:=Lib.hid (show SliceOf Rep.row wr.cell? (.slice pb nb cb) b from SB.out.ext hx.full)
   have FU:=Lib.hid (show SliceOf Rep.row wr.cell? (.slice (some ⟨ba,oa,none⟩) nu cu) u from SU.out.ext hx.full)
   clear hvs hnv hlv su sv hx hM1 hM2 hM3 hM4 hM5 hms hb3 hb5
   go_wp2_with fail
   have xn:=(Ext.refl wr).alloc (.cells #[.slice pv nv cv,.slice pl lv cl] 58)
   have g0:(wr.alloc (.cells #[.slice pv nv cv,.slice pl lv cl] 58)).cell? ⟨wr.heap.size,0,none⟩=some (.slice pv nv cv):=by go_simp
   obtain⟨bx,hbx⟩ : ∃z,z=wr.heap.size:=⟨_,rfl⟩
   obtain⟨w8,hw8b⟩ : ∃z,z=(wr.alloc (.cells #[.slice pv nv cv,.slice pl lv cl] 58)):=⟨_,rfl⟩
   rw [←hw8b]at xn g0 ⊢
   rw [←hbx]at g0 ⊢
   have hS0:Ext wr w8.drew∧w8.drew.cell? ⟨bx,0,none⟩=some (.slice pv nv cv):=⟨xn.drew,(Ext.refl _).drew.at g0⟩
   clear d0 d1 e0 hbx hw8b xn
   go_region_held3 (fun w'=>Ext wr w'∧w'.cell? ⟨bx,0,none⟩=some (.slice pv nv cv))
    (first |with_reducible assumption | with_reducible exact keepE1 (by assumption) hx9)
    (first
     |(go_at_call 31;with_reducible refine(multiplicity_rows (.slice pd nd cd) _ d vs _ (by exact FD.out.ext (And.left ‹Ext wr _∧_›).full) (by exact SV.out.ext (And.left ‹Ext wr _∧_›).full)).mono ?_;rintro e w9 ⟨rfl,hx9⟩;rw [←HM1.out])
     |(go_at_call 31;with_reducible refine(multiplicity_rows (.slice pm nm cm) _ m vs _ (by exact FM.out.ext (And.left ‹Ext wr _∧_›).full) (by exact SV.out.ext (And.left ‹Ext wr _∧_›).full)).mono ?_;rintro e w9 ⟨rfl,hx9⟩;rw [←HM2.out])
     |(go_at_call 31;with_reducible refine(multiplicity_rows (.slice pa na ca) _ a vs _ (by exact FA.out.ext (And.left ‹Ext wr _∧_›).full) (by exact SV.out.ext (And.left ‹Ext wr _∧_›).full)).mono ?_;rintro e w9 ⟨rfl,hx9⟩;rw [←HM3.out])
     |(go_at_call 31;with_reducible refine(multiplicity_rows (.slice _ nu cu) _ u vs _ (by exact FU.out.ext (And.left ‹Ext wr _∧_›).full) (by exact SV.out.ext (And.left ‹Ext wr _∧_›).full)).mono ?_;rintro e w9 ⟨rfl,hx9⟩;rw [←HM4.out])
     |(go_at_call 31;with_reducible refine(multiplicity_rows (.slice pb nb cb) _ b vs _ (by exact FB.out.ext (And.left ‹Ext wr _∧_›).full) (by exact SV.out.ext (And.left ‹Ext wr _∧_›).full)).mono ?_;rintro e w9 ⟨rfl,hx9⟩;rw [←HM5.out])
     |fail)
   all_goals
    clear hS0
    have X10:=Lib.hid (And.left ‹Ext wr _∧_›)
    go_wp2_with fail
    go_roundg (nu - (j+1))
    case measure=>omega
    case rel=>exact⟨j+1,by omega,rfl,by go_num,HX.out.trans X10.out⟩
  ·have hjn:j=nu:=by omega
   have hd:decide ((j:Int)<(nu:Int))=false:=by simp;omega
   have X9:=Lib.hid (X6.out.trans hx)
   clear hx hjn
   go_wp2_with fail
   refine(awake_algebra _ (HT.out.ext X9.out)).mono ?_
   rintro e w10 ⟨rfl,x10⟩
   have X10:=Lib.hid (X9.out.trans x10)
   clear x10 X9
   go_wp2_with fail
   go_ret
   exact⟨by simp,X10.out⟩
end Go.Proofs.YtombmdaohcjokaaGreatDoor
