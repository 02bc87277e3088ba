/- joined texts of a proof: Shelf, BagB, BagC, Ord, Sort -/
import Derived.Shelf.SlSortCmp.WholeK
import Derived.Ground.SlsfProg
import Derived.Ground.NamesProg
import Derived.Shelf.Strings.Builder1
import Derived.Shelf.Small.Bits
import Derived.Shelf.Small.Strs
import Derived.Shelf.Small.Wraps
import Derived.Shelf.Strings.BuilderF
import Derived.Shelf.Strings.BuilderK
import Derived.Shelf.Strconv.Itoa0
import Derived.Shelf.Strconv.Itoa1
import Derived.Shelf.LaysM
import Derived.Shelf.Strconv.Itoa2
import Derived.Shelf.Strconv.Itoa3
import Derived.Shelf.Strconv.Itoa4
import Derived.Shelf.Sort.Plain
import Derived.Shelf.Bits.Mul64
import Derived.Ground.Names2Prog
import Derived.Shelf.Slices.Clone
import Derived.Shelf.Slices.CompactI
import Derived.Shelf.Slices.SearchI
import Derived.Shelf.Slices.Cells
import Derived.Shelf.Slices.In.SortNone
import Derived.Shelf.Slices.Empties
import Derived.Ground.SlgnProg
import Derived.Shelf.SlicesE.Clone
import Derived.Test.YtdgpbpbjlnlijaaGreatDoorProg
import Derived.Test.YtdgpbpbjlnlijaaGreatDoorKJ01
import Derived.Shelf.SlSortCmp.NoneTotal

/-
  DERIVED: THE SHELF's CONTRACTS AT THIS DUMP, IN PLAIN WORDS (tools/lay-plain.mjs out of 'TryzShelf.lean', which tools/lay-shelf.mjs wrote): THE SAME DECLARATIONS UNDER THE SAME NAMES: 'import', 'namespace', 'open', 'def', 'theorem' AND NOTHING ELSE: no command of the shelf's: FOR A HAND-IN. Each laying: the table of numbers ('.._ren') and one theorem, a field a fact of the dump's own or the kernel's comparison; each contract: ONE APPLICATION.
-/
namespace Go.Proofs
open Go.Shelf
def Tryz.lays170_ren : Go.Shelf.Ren := ⟨fun | 170 => 298 | n => n, fun | 70 => 135 | 3 => 3 | 0 => 0 | 72 => 138 | 37 => 136 | 5 => 5 | n => n, fun | n => n⟩
def Tryz.lays169_ren : Go.Shelf.Ren := ⟨fun | 169 => 89 | n => n, fun | 70 => 135 | 9 => 9 | 0 => 0 | 72 => 138 | 37 => 136 | 127 => 187 | 3 => 3 | 5 => 5 | n => n, fun | n => n⟩
theorem Tryz.lays169 : Go.Proofs.Lays.n169 Tryz.prog Tryz.lays169_ren := {
  mixed := by kernel_rfl
  f169 := Tryz.func89.trans (congrArg some (by kernel_rfl))
  t0 := Tryz.underlying0
  a0 := Tryz.isAgg0
  z0 := Tryz.sizeOf0
  v0 := Tryz.zeroValue0
  t3 := Tryz.underlying3
  a3 := Tryz.isAgg3
  z3 := Tryz.sizeOf3
  v3 := Tryz.zeroValue3
  t9 := Tryz.underlying9
  a9 := Tryz.isAgg9
  z9 := Tryz.sizeOf9
  v9 := Tryz.zeroValue9
  t37 := Tryz.underlying136
  a37 := Tryz.isAgg136
  z37 := Tryz.sizeOf136
  v37 := Tryz.zeroValue136
  t70 := Tryz.underlying135
  a70 := Tryz.isAgg135
  z70 := Tryz.sizeOf135
  v70 := Tryz.zeroValue135
  t72 := Tryz.underlying138
  a72 := Tryz.isAgg138
  z72 := Tryz.sizeOf138
  v72 := Tryz.zeroValue138
  t127 := Tryz.underlying187
  a127 := Tryz.isAgg187
  z127 := Tryz.sizeOf187
  v127 := Tryz.zeroValue187 }
theorem Tryz.Builder_Extra_169 : Builder.Extra Tryz.prog Tryz.lays169_ren := {
  sizeBuilder := by kernel_rfl
  liesBuilder := by kernel_rfl
  t5 := Tryz.underlying5
  a5 := Tryz.isAgg5
  z5 := Tryz.sizeOf5
  v5 := Tryz.zeroValue5
  infoByte := by kernel_rfl
  cellsByte := by kernel_rfl
  sizeByte := by kernel_rfl
  neB5 := by decide }
open Go.RowKit in
/-- (*strings.Builder).String: "String returns the accumulated string.": WHATEVER THE BUILDER HOLDS. (LAID: no walk: one application.) -/
theorem Tryz.Builder_String_any (B b : Nat) (l : List UInt8) (w : World) (h : Lib.IsBuilder 138 5 B b (Lib.byteCells l) w) (hBw : B ≤ w.heap.size) :
    Calls Tryz.prog 89 #[.pointer (some ⟨b, 0, none⟩)] w fun e w' => e = .returned (.string ⟨l.toArray⟩) ∧ Below B w w' := Any.Builder_String_any Tryz.lays169 Tryz.Builder_Extra_169 B b l w h hBw
def Tryz.lays128_ren : Go.Shelf.Ren := ⟨fun | 128 => 154 | n => n, fun | 51 => 203 | 3 => 3 | 4 => 4 | 46 => 159 | 5 => 5 | 9 => 9 | n => n, fun | n => n⟩
def Tryz.lays125_ren : Go.Shelf.Ren := ⟨fun | 125 => 105 | 128 => 154 | 129 => 155 | n => n, fun | 46 => 159 | 3 => 3 | 51 => 203 | 53 => 205 | 4 => 4 | 5 => 5 | 9 => 9 | n => n, fun | n => n⟩
def Tryz.lays213_ren : Go.Shelf.Ren := ⟨fun | 213 => 237 | 265 => 269 | n => n, fun | 9 => 9 | 3 => 3 | n => n, fun | n => n⟩
def Tryz.lays106_ren : Go.Shelf.Ren := ⟨fun | 106 => 192 | 213 => 237 | 265 => 269 | n => n, fun | 9 => 9 | 3 => 3 | n => n, fun | n => n⟩
theorem Tryz.lays106 : Go.Proofs.Lays.n106 Tryz.prog Tryz.lays106_ren := {
  mixed := by kernel_rfl
  f106 := Tryz.func192.trans (congrArg some (by kernel_rfl))
  f213 := Tryz.func237.trans (congrArg some (by kernel_rfl))
  f265 := Tryz.func269.trans (congrArg some (by kernel_rfl))
  t3 := Tryz.underlying3
  a3 := Tryz.isAgg3
  z3 := Tryz.sizeOf3
  v3 := Tryz.zeroValue3
  t9 := Tryz.underlying9
  a9 := Tryz.isAgg9
  z9 := Tryz.sizeOf9
  v9 := Tryz.zeroValue9 }
open Go.RowKit in
/-- strings.Compare: "Compare returns an integer comparing two strings lexicographically. The result will be 0 if a == b, -1 if a < b, and +1 if a > b.": IT RETURNS 'Lib.compareBytes a b'; the world is as it was. (LAID: no walk: one application.) -/
theorem Tryz.strings_Compare (a b : ByteArray) (w : World) :
    Calls Tryz.prog 192 #[.string a, .string b] w fun e w' => e = .returned (.int .i64 (Lib.compareBytes a.data.toList b.data.toList)) ∧ w' = w := Any.strings_Compare Tryz.lays106 a b w
def Tryz.lays215_ren : Go.Shelf.Ren := ⟨fun | 215 => 157 | n => n, fun | 3 => 3 | 4 => 4 | n => n, fun | n => n⟩
def Tryz.lays122_ren : Go.Shelf.Ren := ⟨fun | 122 => 112 | 215 => 157 | n => n, fun | 3 => 3 | 4 => 4 | n => n, fun | n => n⟩
def Tryz.lays129_ren : Go.Shelf.Ren := ⟨fun | 129 => 155 | n => n, fun | 53 => 205 | 3 => 3 | 4 => 4 | 46 => 159 | 5 => 5 | 9 => 9 | n => n, fun | n => n⟩
def Tryz.lays317_ren : Go.Shelf.Ren := ⟨fun | 317 => 231 | n => n, fun | 3 => 3 | 46 => 159 | n => n, fun | n => n⟩
def Tryz.lays318_ren : Go.Shelf.Ren := ⟨fun | 318 => 232 | n => n, fun | 3 => 3 | 4 => 4 | n => n, fun | n => n⟩
def Tryz.lays283_ren : Go.Shelf.Ren := ⟨fun | 283 => 183 | n => n, fun | 3 => 3 | 9 => 9 | 4 => 4 | n => n, fun | n => n⟩
def Tryz.laysM284_ren : Go.Shelf.Ren := ⟨fun | 284 => 184 | 129 => 155 | 317 => 231 | 318 => 232 | n => n, fun | 53 => 205 | 3 => 3 | 212 => 287 | 0 => 0 | 4 => 4 | 46 => 159 | 5 => 5 | 9 => 9 | n => n, fun | 17 => 1 | n => n⟩
def Tryz.lays285_ren : Go.Shelf.Ren := ⟨fun | 285 => 185 | n => n, fun | 37 => 136 | 53 => 205 | 3 => 3 | 4 => 4 | 51 => 203 | 9 => 9 | 5 => 5 | 0 => 0 | n => n, fun | n => n⟩
def Tryz.laysM246_ren : Go.Shelf.Ren := ⟨fun | 246 => 132 | 283 => 183 | 284 => 184 | 285 => 185 | 286 => 186 | 129 => 155 | 317 => 231 | 318 => 232 | 319 => 233 | 320 => 234 | 337 => 267 | 338 => 268 | n => n, fun | 2 => 2 | 3 => 3 | 9 => 9 | 4 => 4 | 171 => 241 | 0 => 0 | 53 => 205 | 37 => 136 | 5 => 5 | 173 => 243 | 212 => 287 | 51 => 203 | 20 => 20 | 213 => 288 | 46 => 159 | 232 => 323 | 233 => 324 | n => n, fun | 17 => 1 | 18 => 3 | 19 => 4 | n => n⟩
def Tryz.lays246_ren : Go.Shelf.Ren := ⟨fun | 246 => 132 | 283 => 183 | 284 => 184 | 285 => 185 | 286 => 186 | 129 => 155 | 317 => 231 | 318 => 232 | 319 => 233 | 320 => 234 | 337 => 267 | 338 => 268 | n => n, fun | 2 => 2 | 3 => 3 | 9 => 9 | 4 => 4 | 171 => 241 | 0 => 0 | 53 => 205 | 37 => 136 | 5 => 5 | 173 => 243 | 212 => 287 | 51 => 203 | 20 => 20 | 213 => 288 | 46 => 159 | 232 => 323 | 233 => 324 | n => n, fun | 17 => 1 | 18 => 3 | 19 => 4 | n => n⟩
def Tryz.laysM243_ren : Go.Shelf.Ren := ⟨fun | 243 => 131 | 246 => 132 | 283 => 183 | 284 => 184 | 285 => 185 | 286 => 186 | 129 => 155 | 317 => 231 | 318 => 232 | 319 => 233 | 320 => 234 | 337 => 267 | 338 => 268 | n => n, fun | 3 => 3 | 9 => 9 | 2 => 2 | 4 => 4 | 171 => 241 | 0 => 0 | 53 => 205 | 37 => 136 | 5 => 5 | 173 => 243 | 212 => 287 | 51 => 203 | 20 => 20 | 213 => 288 | 46 => 159 | 232 => 323 | 233 => 324 | n => n, fun | 17 => 1 | 18 => 3 | 19 => 4 | n => n⟩
def Tryz.lays243_ren : Go.Shelf.Ren := ⟨fun | 243 => 131 | 246 => 132 | 283 => 183 | 284 => 184 | 285 => 185 | 286 => 186 | 129 => 155 | 317 => 231 | 318 => 232 | 319 => 233 | 320 => 234 | 337 => 267 | 338 => 268 | n => n, fun | 3 => 3 | 9 => 9 | 2 => 2 | 4 => 4 | 171 => 241 | 0 => 0 | 53 => 205 | 37 => 136 | 5 => 5 | 173 => 243 | 212 => 287 | 51 => 203 | 20 => 20 | 213 => 288 | 46 => 159 | 232 => 323 | 233 => 324 | n => n, fun | 17 => 1 | 18 => 3 | 19 => 4 | n => n⟩
def Tryz.laysM171_ren : Go.Shelf.Ren := ⟨fun | 171 => 87 | 243 => 131 | 246 => 132 | 283 => 183 | 284 => 184 | 285 => 185 | 286 => 186 | 129 => 155 | 317 => 231 | 318 => 232 | 319 => 233 | 320 => 234 | 337 => 267 | 338 => 268 | n => n, fun | 3 => 3 | 9 => 9 | 2 => 2 | 4 => 4 | 171 => 241 | 0 => 0 | 53 => 205 | 37 => 136 | 5 => 5 | 173 => 243 | 212 => 287 | 51 => 203 | 20 => 20 | 213 => 288 | 46 => 159 | 232 => 323 | 233 => 324 | n => n, fun | 17 => 1 | 18 => 3 | 19 => 4 | n => n⟩
theorem Tryz.laysM171 : Go.Proofs.LaysM.n171 Tryz.prog Tryz.laysM171_ren := {
  mixed := by kernel_rfl
  f129 := Tryz.func155.trans (congrArg some (by kernel_rfl))
  f171 := Tryz.func87.trans (congrArg some (by kernel_rfl))
  f243 := Tryz.func131.trans (congrArg some (by kernel_rfl))
  f246 := Tryz.func132.trans (congrArg some (by kernel_rfl))
  f283 := Tryz.func183.trans (congrArg some (by kernel_rfl))
  f284 := Tryz.func184.trans (congrArg some (by kernel_rfl))
  f285 := Tryz.func185.trans (congrArg some (by kernel_rfl))
  f286 := Tryz.func186.trans (congrArg some (by kernel_rfl))
  f317 := Tryz.func231.trans (congrArg some (by kernel_rfl))
  f318 := Tryz.func232.trans (congrArg some (by kernel_rfl))
  f319 := Tryz.func233.trans (congrArg some (by kernel_rfl))
  f320 := Tryz.func234.trans (congrArg some (by kernel_rfl))
  f337 := Tryz.func267.trans (congrArg some (by kernel_rfl))
  f338 := Tryz.func268.trans (congrArg some (by kernel_rfl))
  t0 := Tryz.underlying0
  a0 := Tryz.isAgg0
  z0 := Tryz.sizeOf0
  v0 := Tryz.zeroValue0
  t2 := Tryz.underlying2
  a2 := Tryz.isAgg2
  z2 := Tryz.sizeOf2
  v2 := Tryz.zeroValue2
  t3 := Tryz.underlying3
  a3 := Tryz.isAgg3
  z3 := Tryz.sizeOf3
  v3 := Tryz.zeroValue3
  t4 := Tryz.underlying4
  a4 := Tryz.isAgg4
  z4 := Tryz.sizeOf4
  v4 := Tryz.zeroValue4
  t5 := Tryz.underlying5
  a5 := Tryz.isAgg5
  z5 := Tryz.sizeOf5
  v5 := Tryz.zeroValue5
  t9 := Tryz.underlying9
  a9 := Tryz.isAgg9
  z9 := Tryz.sizeOf9
  v9 := Tryz.zeroValue9
  t20 := Tryz.underlying20
  a20 := Tryz.isAgg20
  z20 := Tryz.sizeOf20
  v20 := Tryz.zeroValue20
  t37 := Tryz.underlying136
  a37 := Tryz.isAgg136
  z37 := Tryz.sizeOf136
  v37 := Tryz.zeroValue136
  t46 := Tryz.underlying159
  a46 := Tryz.isAgg159
  z46 := Tryz.sizeOf159
  v46 := Tryz.zeroValue159
  t51 := Tryz.underlying203
  a51 := Tryz.isAgg203
  z51 := Tryz.sizeOf203
  v51 := Tryz.zeroValue203
  t53 := Tryz.underlying205
  a53 := Tryz.isAgg205
  z53 := Tryz.sizeOf205
  v53 := Tryz.zeroValue205
  t171 := Tryz.underlying241
  a171 := Tryz.isAgg241
  z171 := Tryz.sizeOf241
  v171 := Tryz.zeroValue241
  t173 := Tryz.underlying243
  a173 := Tryz.isAgg243
  z173 := Tryz.sizeOf243
  v173 := Tryz.zeroValue243
  t212 := Tryz.underlying287
  a212 := Tryz.isAgg287
  z212 := Tryz.sizeOf287
  v212 := Tryz.zeroValue287
  t213 := Tryz.underlying288
  a213 := Tryz.isAgg288
  z213 := Tryz.sizeOf288
  t232 := Tryz.underlying323
  a232 := Tryz.isAgg323
  z232 := Tryz.sizeOf323
  v232 := Tryz.zeroValue323
  t233 := Tryz.underlying324
  a233 := Tryz.isAgg324
  z233 := Tryz.sizeOf324
  v233 := Tryz.zeroValue324
  g17 := by kernel_rfl
  g18 := by kernel_rfl
  g19 := by kernel_rfl
  i0 := by kernel_rfl
  i2 := by kernel_rfl
  i3 := by kernel_rfl
  i4 := by kernel_rfl
  i5 := by kernel_rfl
  i9 := by kernel_rfl
  i20 := by kernel_rfl
  i37 := by kernel_rfl
  i46 := by kernel_rfl
  i51 := by kernel_rfl
  i53 := by kernel_rfl
  i171 := by kernel_rfl
  i173 := by kernel_rfl
  i212 := by kernel_rfl
  i232 := by kernel_rfl
  i233 := by kernel_rfl
  m17 := by kernel_rfl
  m18 := by kernel_rfl
  m19 := by kernel_rfl }
open Go.RowKit Go.Sort Go.Lib in
/-- strconv.Itoa: "Itoa is equivalent to FormatInt(int64(i), 10).": i's DECIMAL NUMERAL ('Lib.itoa': a '-' where i is negative, then the digits), FOR EVERY int. The world behind the call: the world before it, new blocks behind the heap (the library's 'var a [24]byte'), draws. (LAID: no walk: one application.) -/
theorem Tryz.strconv_Itoa (n : Int) (h0 : -9223372036854775808 ≤ n) (h1 : n ≤ 9223372036854775807) (w : World) (htab : Lib.TabIs Tryz.prog w "internal/strconv.uint64pow10" .u64 Lib.pow10Tab) :
    Calls Tryz.prog 87 #[.int .i64 n] w fun e w' => e = .returned (.string ⟨(Lib.itoa n).toArray⟩) ∧ ∃ k os, w' = grow (w.drewN k) os := Any.strconv_Itoa Tryz.laysM171 n h0 h1 w htab
def Tryz.lays171_ren : Go.Shelf.Ren := ⟨fun | 171 => 87 | 243 => 131 | 246 => 132 | 283 => 183 | 284 => 184 | 285 => 185 | 286 => 186 | 129 => 155 | 317 => 231 | 318 => 232 | 319 => 233 | 320 => 234 | 337 => 267 | 338 => 268 | n => n, fun | 3 => 3 | 9 => 9 | 2 => 2 | 4 => 4 | 171 => 241 | 0 => 0 | 53 => 205 | 37 => 136 | 5 => 5 | 173 => 243 | 212 => 287 | 51 => 203 | 20 => 20 | 213 => 288 | 46 => 159 | 232 => 323 | 233 => 324 | n => n, fun | 17 => 1 | 18 => 3 | 19 => 4 | n => n⟩
def Tryz.laysM173_ren : Go.Shelf.Ren := ⟨fun | 173 => 88 | 246 => 132 | 283 => 183 | 284 => 184 | 285 => 185 | 286 => 186 | 129 => 155 | 317 => 231 | 318 => 232 | 319 => 233 | 320 => 234 | 337 => 267 | 338 => 268 | n => n, fun | 2 => 2 | 3 => 3 | 9 => 9 | 4 => 4 | 171 => 241 | 0 => 0 | 53 => 205 | 37 => 136 | 5 => 5 | 173 => 243 | 212 => 287 | 51 => 203 | 20 => 20 | 213 => 288 | 46 => 159 | 232 => 323 | 233 => 324 | n => n, fun | 17 => 1 | 18 => 3 | 19 => 4 | n => n⟩
theorem Tryz.laysM173 : Go.Proofs.LaysM.n173 Tryz.prog Tryz.laysM173_ren := {
  mixed := by kernel_rfl
  f129 := Tryz.func155.trans (congrArg some (by kernel_rfl))
  f173 := Tryz.func88.trans (congrArg some (by kernel_rfl))
  f246 := Tryz.func132.trans (congrArg some (by kernel_rfl))
  f283 := Tryz.func183.trans (congrArg some (by kernel_rfl))
  f284 := Tryz.func184.trans (congrArg some (by kernel_rfl))
  f285 := Tryz.func185.trans (congrArg some (by kernel_rfl))
  f286 := Tryz.func186.trans (congrArg some (by kernel_rfl))
  f317 := Tryz.func231.trans (congrArg some (by kernel_rfl))
  f318 := Tryz.func232.trans (congrArg some (by kernel_rfl))
  f319 := Tryz.func233.trans (congrArg some (by kernel_rfl))
  f320 := Tryz.func234.trans (congrArg some (by kernel_rfl))
  f337 := Tryz.func267.trans (congrArg some (by kernel_rfl))
  f338 := Tryz.func268.trans (congrArg some (by kernel_rfl))
  t0 := Tryz.underlying0
  a0 := Tryz.isAgg0
  z0 := Tryz.sizeOf0
  v0 := Tryz.zeroValue0
  t2 := Tryz.underlying2
  a2 := Tryz.isAgg2
  z2 := Tryz.sizeOf2
  v2 := Tryz.zeroValue2
  t3 := Tryz.underlying3
  a3 := Tryz.isAgg3
  z3 := Tryz.sizeOf3
  v3 := Tryz.zeroValue3
  t4 := Tryz.underlying4
  a4 := Tryz.isAgg4
  z4 := Tryz.sizeOf4
  v4 := Tryz.zeroValue4
  t5 := Tryz.underlying5
  a5 := Tryz.isAgg5
  z5 := Tryz.sizeOf5
  v5 := Tryz.zeroValue5
  t9 := Tryz.underlying9
  a9 := Tryz.isAgg9
  z9 := Tryz.sizeOf9
  v9 := Tryz.zeroValue9
  t20 := Tryz.underlying20
  a20 := Tryz.isAgg20
  z20 := Tryz.sizeOf20
  v20 := Tryz.zeroValue20
  t37 := Tryz.underlying136
  a37 := Tryz.isAgg136
  z37 := Tryz.sizeOf136
  v37 := Tryz.zeroValue136
  t46 := Tryz.underlying159
  a46 := Tryz.isAgg159
  z46 := Tryz.sizeOf159
  v46 := Tryz.zeroValue159
  t51 := Tryz.underlying203
  a51 := Tryz.isAgg203
  z51 := Tryz.sizeOf203
  v51 := Tryz.zeroValue203
  t53 := Tryz.underlying205
  a53 := Tryz.isAgg205
  z53 := Tryz.sizeOf205
  v53 := Tryz.zeroValue205
  t171 := Tryz.underlying241
  a171 := Tryz.isAgg241
  z171 := Tryz.sizeOf241
  v171 := Tryz.zeroValue241
  t173 := Tryz.underlying243
  a173 := Tryz.isAgg243
  z173 := Tryz.sizeOf243
  v173 := Tryz.zeroValue243
  t212 := Tryz.underlying287
  a212 := Tryz.isAgg287
  z212 := Tryz.sizeOf287
  v212 := Tryz.zeroValue287
  t213 := Tryz.underlying288
  a213 := Tryz.isAgg288
  z213 := Tryz.sizeOf288
  t232 := Tryz.underlying323
  a232 := Tryz.isAgg323
  z232 := Tryz.sizeOf323
  v232 := Tryz.zeroValue323
  t233 := Tryz.underlying324
  a233 := Tryz.isAgg324
  z233 := Tryz.sizeOf324
  v233 := Tryz.zeroValue324
  g17 := by kernel_rfl
  g18 := by kernel_rfl
  g19 := by kernel_rfl
  i0 := by kernel_rfl
  i2 := by kernel_rfl
  i3 := by kernel_rfl
  i4 := by kernel_rfl
  i5 := by kernel_rfl
  i9 := by kernel_rfl
  i20 := by kernel_rfl
  i37 := by kernel_rfl
  i46 := by kernel_rfl
  i51 := by kernel_rfl
  i53 := by kernel_rfl
  i171 := by kernel_rfl
  i173 := by kernel_rfl
  i212 := by kernel_rfl
  i232 := by kernel_rfl
  i233 := by kernel_rfl
  m17 := by kernel_rfl
  m18 := by kernel_rfl
  m19 := by kernel_rfl }
open Go.RowKit Go.Sort Go.Lib in
/-- strconv.FormatInt: "FormatInt returns the string representation of i in the given base": AT BASE 10: i's decimal numeral, for every int64. (LAID: no walk: one application.) -/
theorem Tryz.strconv_FormatInt_10 (n : Int) (h0 : -9223372036854775808 ≤ n) (h1 : n ≤ 9223372036854775807) (w : World) (htab : Lib.TabIs Tryz.prog w "internal/strconv.uint64pow10" .u64 Lib.pow10Tab) :
    Calls Tryz.prog 88 #[.int .i64 n, .int .i64 10] w fun e w' => e = .returned (.string ⟨(Lib.itoa n).toArray⟩) ∧ ∃ k os, w' = grow (w.drewN k) os := Any.strconv_FormatInt_10 Tryz.laysM173 n h0 h1 w htab
def Tryz.lays173_ren : Go.Shelf.Ren := ⟨fun | 173 => 88 | 246 => 132 | 283 => 183 | 284 => 184 | 285 => 185 | 286 => 186 | 129 => 155 | 317 => 231 | 318 => 232 | 319 => 233 | 320 => 234 | 337 => 267 | 338 => 268 | n => n, fun | 2 => 2 | 3 => 3 | 9 => 9 | 4 => 4 | 171 => 241 | 0 => 0 | 53 => 205 | 37 => 136 | 5 => 5 | 173 => 243 | 212 => 287 | 51 => 203 | 20 => 20 | 213 => 288 | 46 => 159 | 232 => 323 | 233 => 324 | n => n, fun | 17 => 1 | 18 => 3 | 19 => 4 | n => n⟩
def Tryz.lays189_ren : Go.Shelf.Ren := ⟨fun | 189 => 58 | 125 => 105 | 257 => 104 | 128 => 154 | 129 => 155 | 294 => 146 | 295 => 147 | 296 => 148 | 297 => 149 | 298 => 150 | 299 => 151 | 216 => 108 | 300 => 152 | 301 => 153 | 328 => 207 | 329 => 208 | 330 => 209 | 331 => 210 | 332 => 211 | 215 => 157 | 343 => 241 | n => n, fun | 28 => 24 | 3 => 3 | 46 => 159 | 0 => 0 | 51 => 203 | 53 => 205 | 4 => 4 | 183 => 197 | 182 => 196 | 131 => 107 | 5 => 5 | 9 => 9 | 218 => 261 | 222 => 265 | 228 => 294 | 229 => 295 | n => n, fun | n => n⟩
theorem Tryz.lays189 : Go.Proofs.Lays.n189 Tryz.prog Tryz.lays189_ren := {
  mixed := by kernel_rfl
  f125 := Tryz.func105.trans (congrArg some (by kernel_rfl))
  f128 := Tryz.func154.trans (congrArg some (by kernel_rfl))
  f129 := Tryz.func155.trans (congrArg some (by kernel_rfl))
  f189 := Tryz.func58.trans (congrArg some (by kernel_rfl))
  f215 := Tryz.func157.trans (congrArg some (by kernel_rfl))
  f216 := Tryz.func108.trans (congrArg some (by kernel_rfl))
  f257 := Tryz.func104.trans (congrArg some (by kernel_rfl))
  f294 := Tryz.func146.trans (congrArg some (by kernel_rfl))
  f295 := Tryz.func147.trans (congrArg some (by kernel_rfl))
  f296 := Tryz.func148.trans (congrArg some (by kernel_rfl))
  f297 := Tryz.func149.trans (congrArg some (by kernel_rfl))
  f298 := Tryz.func150.trans (congrArg some (by kernel_rfl))
  f299 := Tryz.func151.trans (congrArg some (by kernel_rfl))
  f300 := Tryz.func152.trans (congrArg some (by kernel_rfl))
  f301 := Tryz.func153.trans (congrArg some (by kernel_rfl))
  f328 := Tryz.func207.trans (congrArg some (by kernel_rfl))
  f329 := Tryz.func208.trans (congrArg some (by kernel_rfl))
  f330 := Tryz.func209.trans (congrArg some (by kernel_rfl))
  f331 := Tryz.func210.trans (congrArg some (by kernel_rfl))
  f332 := Tryz.func211.trans (congrArg some (by kernel_rfl))
  f343 := Tryz.func241.trans (congrArg some (by kernel_rfl))
  t0 := Tryz.underlying0
  a0 := Tryz.isAgg0
  z0 := Tryz.sizeOf0
  v0 := Tryz.zeroValue0
  t3 := Tryz.underlying3
  a3 := Tryz.isAgg3
  z3 := Tryz.sizeOf3
  v3 := Tryz.zeroValue3
  t4 := Tryz.underlying4
  a4 := Tryz.isAgg4
  z4 := Tryz.sizeOf4
  v4 := Tryz.zeroValue4
  t5 := Tryz.underlying5
  a5 := Tryz.isAgg5
  z5 := Tryz.sizeOf5
  v5 := Tryz.zeroValue5
  t9 := Tryz.underlying9
  a9 := Tryz.isAgg9
  z9 := Tryz.sizeOf9
  v9 := Tryz.zeroValue9
  t28 := Tryz.underlying24
  a28 := Tryz.isAgg24
  z28 := Tryz.sizeOf24
  v28 := Tryz.zeroValue24
  t46 := Tryz.underlying159
  a46 := Tryz.isAgg159
  z46 := Tryz.sizeOf159
  v46 := Tryz.zeroValue159
  t51 := Tryz.underlying203
  a51 := Tryz.isAgg203
  z51 := Tryz.sizeOf203
  v51 := Tryz.zeroValue203
  t53 := Tryz.underlying205
  a53 := Tryz.isAgg205
  z53 := Tryz.sizeOf205
  v53 := Tryz.zeroValue205
  t131 := Tryz.underlying107
  a131 := Tryz.isAgg107
  z131 := Tryz.sizeOf107
  v131 := Tryz.zeroValue107
  t182 := Tryz.underlying196
  a182 := Tryz.isAgg196
  z182 := Tryz.sizeOf196
  v182 := Tryz.zeroValue196
  t183 := Tryz.underlying197
  a183 := Tryz.isAgg197
  z183 := Tryz.sizeOf197
  v183 := Tryz.zeroValue197
  t218 := Tryz.underlying261
  a218 := Tryz.isAgg261
  z218 := Tryz.sizeOf261
  v218 := Tryz.zeroValue261
  t222 := Tryz.underlying265
  a222 := Tryz.isAgg265
  z222 := Tryz.sizeOf265
  v222 := Tryz.zeroValue265
  t228 := Tryz.underlying294
  a228 := Tryz.isAgg294
  z228 := Tryz.sizeOf294
  v228 := Tryz.zeroValue294
  t229 := Tryz.underlying295
  a229 := Tryz.isAgg295
  z229 := Tryz.sizeOf295
  v229 := Tryz.zeroValue295 }
open Go.Sort Go.RowKit in
theorem Tryz.slices_Sort_int (blk off cap : Nat) (zs : List Int) (w : World) (hH : Holds (Value.int .i64) w blk off zs.toArray) (hblk : blk < w.heap.size) (hsz : zs.length < 4611686018427387904) :
    Calls Tryz.prog 58 #[.slice (some ⟨blk, off, none⟩) zs.length cap] w fun e w' =>
      e = .returned (.tuple #[]) ∧ ∃ n os, w' = grow (putRow (Value.int .i64) (Sort.ahead w n) blk off (zs.mergeSort fun x y => decide (x ≤ y)).toArray) os := Any.slices_Sort_int Tryz.lays189 blk off cap zs w hH hblk hsz
def Tryz.lays264_ren : Go.Shelf.Ren := ⟨fun | 264 => 266 | n => n, fun | 53 => 205 | 46 => 159 | n => n, fun | n => n⟩
theorem Tryz.lays264 : Go.Proofs.Lays.n264 Tryz.prog Tryz.lays264_ren := {
  mixed := by kernel_rfl
  f264 := Tryz.func266.trans (congrArg some (by kernel_rfl))
  t46 := Tryz.underlying159
  a46 := Tryz.isAgg159
  z46 := Tryz.sizeOf159
  v46 := Tryz.zeroValue159
  t53 := Tryz.underlying205
  a53 := Tryz.isAgg205
  z53 := Tryz.sizeOf205
  v53 := Tryz.zeroValue205 }
open Go.RowKit Go.Lib in
theorem Tryz.bits_Mul64 (x y : Nat) (hx : x < 18446744073709551616) (hy : y < 18446744073709551616) (w : World) :
    Calls Tryz.prog 266 #[.int .u64 x, .int .u64 y] w fun e w' => e = .returned (.tuple #[.int .u64 ((x * y / 18446744073709551616 : Nat) : Int), .int .u64 ((x * y % 18446744073709551616 : Nat) : Int)]) ∧ w' = w := Any.bits_Mul64 Tryz.lays264 x y hx hy w
def Tryz.laysNm215_ren : Go.Shelf.Ren := ⟨fun | 15 => 139 | n => n, fun | 22 => 24 | 3 => 3 | 4 => 4 | n => n, fun | n => n⟩
def Tryz.laysNm220_ren : Go.Shelf.Ren := ⟨fun | 20 => 90 | n => n, fun | 22 => 24 | 3 => 3 | 4 => 4 | 0 => 0 | n => n, fun | n => n⟩
theorem Tryz.laysNm220 : Go.Proofs.Lays2.n20 Tryz.prog Tryz.laysNm220_ren := {
  mixed := by kernel_rfl
  f20 := Tryz.func90.trans (congrArg some (by kernel_rfl))
  t0 := Tryz.underlying0
  a0 := Tryz.isAgg0
  z0 := Tryz.sizeOf0
  v0 := Tryz.zeroValue0
  t3 := Tryz.underlying3
  a3 := Tryz.isAgg3
  z3 := Tryz.sizeOf3
  v3 := Tryz.zeroValue3
  t4 := Tryz.underlying4
  a4 := Tryz.isAgg4
  z4 := Tryz.sizeOf4
  v4 := Tryz.zeroValue4
  t22 := Tryz.underlying24
  a22 := Tryz.isAgg24
  z22 := Tryz.sizeOf24
  v22 := Tryz.zeroValue24
  i3 := by kernel_rfl }
open Go.RowKit Go.Lib Go.Sort in
/-- slices.Compact at []int: "Compact replaces consecutive runs of equal elements with a single copy. This is like the uniq command found on Unix. Compact modifies the contents of the slice s and returns the modified slice, which may have a smaller length. Compact zeroes the elements between the new length and the original length. The result preserves the nilness of s.": IT RETURNS THE SLICE CUT TO 'Lib.compact zs'; ITS CELLS HOLD 'Lib.compact zs', THEN ZERO VALUES up to the old length; all else is as it was, but for the count of draws. IN THE WORDS OF slices.Sort's CONTRACT ('Holds', 'putRow'): so the everyday 'slices.Sort(xs); xs = slices.Compact(xs)' goes from the one contract to the other. It asks 'zs.length ≤ cap' (every slice's: the reslicing 's[:k]' looks at it). Length 0, nil: '.._empty'. (LAID: no walk: one application.) -/
theorem Tryz.slices_Compact_int (blk off cap : Nat) (zs : List Int) (w : World) (hH : Holds (Value.int .i64) w blk off zs.toArray) (hsz : zs.length ≤ 9223372036854775807) (hcap : zs.length ≤ cap) :
    Calls Tryz.prog 90 #[.slice (some ⟨blk, off, none⟩) zs.length cap] w fun e w' => e = .returned (.slice (some ⟨blk, off, none⟩) (Lib.compact zs).length cap) ∧ ∃ q, w' = putRow (Value.int .i64) (Sort.ahead w q) blk off (Lib.compact zs ++ List.replicate (zs.length - (Lib.compact zs).length) 0).toArray := Any.slices_Compact_int Tryz.laysNm220 blk off cap zs w hH hsz hcap
open Go.RowKit Go.Lib Go.Sort in
/-- The same at a slice of length 0, a nil one too: it comes back as it is. (LAID: no walk: one application.) -/
theorem Tryz.slices_Compact_int_empty (a : Option Addr) (cap : Nat) (w : World) :
    Calls Tryz.prog 90 #[.slice a 0 cap] w fun e w' => e = .returned (.slice a 0 cap) ∧ w' = w := Any.slices_Compact_int_empty Tryz.laysNm220 a cap w
def Tryz.laysNm237_ren : Go.Shelf.Ren := ⟨fun | 37 => 157 | n => n, fun | 3 => 3 | 4 => 4 | n => n, fun | n => n⟩
def Tryz.laysNm232_ren : Go.Shelf.Ren := ⟨fun | 32 => 109 | n => n, fun | 3 => 3 | 4 => 4 | n => n, fun | n => n⟩
def Tryz.laysNm231_ren : Go.Shelf.Ren := ⟨fun | 31 => 108 | 37 => 157 | n => n, fun | 3 => 3 | 4 => 4 | n => n, fun | n => n⟩
def Tryz.laysNm225_ren : Go.Shelf.Ren := ⟨fun | 25 => 61 | 31 => 108 | 32 => 109 | 37 => 157 | n => n, fun | 22 => 24 | 3 => 3 | 4 => 4 | 40 => 159 | 0 => 0 | n => n, fun | n => n⟩
theorem Tryz.laysNm225 : Go.Proofs.Lays2.n25 Tryz.prog Tryz.laysNm225_ren := {
  mixed := by kernel_rfl
  f25 := Tryz.func61.trans (congrArg some (by kernel_rfl))
  f31 := Tryz.func108.trans (congrArg some (by kernel_rfl))
  f32 := Tryz.func109.trans (congrArg some (by kernel_rfl))
  f37 := Tryz.func157.trans (congrArg some (by kernel_rfl))
  t0 := Tryz.underlying0
  a0 := Tryz.isAgg0
  z0 := Tryz.sizeOf0
  v0 := Tryz.zeroValue0
  t3 := Tryz.underlying3
  a3 := Tryz.isAgg3
  z3 := Tryz.sizeOf3
  v3 := Tryz.zeroValue3
  t4 := Tryz.underlying4
  a4 := Tryz.isAgg4
  z4 := Tryz.sizeOf4
  v4 := Tryz.zeroValue4
  t22 := Tryz.underlying24
  a22 := Tryz.isAgg24
  z22 := Tryz.sizeOf24
  v22 := Tryz.zeroValue24
  t40 := Tryz.underlying159
  a40 := Tryz.isAgg159
  z40 := Tryz.sizeOf159
  v40 := Tryz.zeroValue159 }
open Go.RowKit Go.Lib in
/-- slices.BinarySearch at []int: "BinarySearch searches for target in a sorted slice and returns the earliest position where target is found, or the position where target would appear in the sort order; it also returns a bool saying whether the target is really found in the slice. The slice must be sorted in increasing order.": OF A SORTED SLICE IT RETURNS how many elements are less than the target, and whether the target is among the elements; the world is as it was but for the count of draws. 'zs': what the cells behind the slice's address hold; 'zs.take n': its elements. (Of a slice that is not sorted: no contract here.) (LAID: no walk: one application.) -/
theorem Tryz.slices_BinarySearch_int (b off n c : Nat) (zs : List Int) (x : Int) (w : World) (hz : n ≤ zs.length) (hbig : n < 4611686018427387904) (hc : ∀ j, j < zs.length → w.cell? ⟨b, off + j, none⟩ = some (.int .i64 (zs.getD j 0))) (hs : (zs.take n).Pairwise (· ≤ ·)) :
    Calls Tryz.prog 61 #[.slice (some ⟨b, off, none⟩) n c, .int .i64 x] w fun e w' => e = .returned (.tuple #[.int .i64 ((zs.take n).countP (· < x) : Nat), .bool ((zs.take n).contains x)]) ∧ ∃ q, w' = w.drewN q := Any.slices_BinarySearch_int Tryz.laysNm225 b off n c zs x w hz hbig hc hs
open Go.RowKit Go.Sort in
/-- .. and plain. (LAID: no walk: one application.) -/
theorem Tryz.slices_Sort_int_none (p : Option Addr) (cap : Nat) (w : World) :
    Calls Tryz.prog 58 #[.slice p 0 cap] w fun e w' => e = .returned (.tuple #[]) ∧ w' = w := Any.slices_Sort_int_none Tryz.lays189 p cap w
open Go.RowKit Go.Lib in
/-- slices.BinarySearch at []int of no element: position 0, not found; the world is as it was. (LAID: no walk: one application.) -/
theorem Tryz.slices_BinarySearch_int_empty (a : Option Addr) (c : Nat) (x : Int) (w : World) :
    Calls Tryz.prog 61 #[.slice a 0 c, .int .i64 x] w fun e w' => e = .returned (.tuple #[.int .i64 0, .bool false]) ∧ w' = w := Any.slices_BinarySearch_int_empty Tryz.laysNm225 a c x w
def Tryz.laysSlE041_f139_ren : Go.Shelf.Ren := ⟨fun | 41 => 139 | n => n, fun | 22 => 24 | 23 => 3 | 4 => 4 | n => n, fun | n => n⟩
def Tryz.cloneVal_ren : Go.Shelf.Ren := ⟨fun | 41 => 138 | n => n, fun | 22 => 40 | 23 => 44 | 4 => 4 | n => n, fun | n => n⟩
def Tryz.cloneInt_ren : Go.Shelf.Ren := ⟨fun | 41 => 139 | n => n, fun | 22 => 24 | 23 => 3 | 4 => 4 | n => n, fun | n => n⟩
def Tryz.sortRows_ren : Go.Shelf.Ren := ⟨fun | 6 => 102 | 15 => 105 | 14 => 143 | 28 => 154 | 29 => 155 | 20 => 198 | 21 => 199 | 22 => 200 | 23 => 201 | 24 => 202 | 25 => 203 | 26 => 204 | 27 => 205 | 46 => 238 | 47 => 208 | 48 => 209 | 49 => 239 | 50 => 240 | 57 => 270 | n => n, fun | 22 => 35 | 24 => 42 | 25 => 156 | 3 => 3 | 39 => 159 | 0 => 0 | 53 => 203 | 55 => 205 | 4 => 4 | 46 => 197 | 45 => 196 | 50 => 107 | 5 => 5 | 9 => 9 | 66 => 261 | 70 => 265 | 76 => 294 | 77 => 295 | n => n, fun | n => n⟩
end Go.Proofs

/- Contracts of value.Compare, value.CompareRows, slices.Compare at ints, bag.Compare. -/
namespace Go.Proofs.YtdgpbpbjlnlijaaGreatDoor
open Go.RowKit

@[reducible] def valV (x : Val) : Value := .agg #[.int .i64 x.kind, .int .i64 x.n, .string x.s]
def cmpS (a b : ByteArray) : Int := Lib.compareBytes a.data.toList b.data.toList
def cmpVal (a b : Val) : Int := orI [cmpI a.kind b.kind, cmpI a.n b.n, cmpS a.s b.s]

theorem or_new (W : World) (l : List Int) (T : TypeId) : ∀ k (h : k < l.length), (W.alloc (.cells (l.map (Value.int .i64)).toArray T)).cell? ⟨W.heap.size, 0 + k, none⟩ = some (.int .i64 l[k]) := by
  intro k h
  rw [Nat.zero_add, World.cell?_alloc_at _ _ _ _ rfl]
  simp [h]

set_option maxHeartbeats 1000000 in
theorem compare_val (a b : Val) (w : World) : Calls Tryz.prog 136 #[valV a, valV b] w fun e w' => e = .returned (.int .i64 (cmpVal a b)) ∧ Gro w w' := by
  obtain ⟨ak, an, sa⟩ := a
  obtain ⟨bk, bn, sb⟩ := b
  unfold cmpVal
  dsimp only
  go_enter Tryz.func136, Tryz.ntmps136
  go_wp2_with fail
  have c1 : ((w.alloc (.cells #[.int .i64 ak, .int .i64 an, .string sa] 44)).alloc (.cells #[.int .i64 bk, .int .i64 bn, .string sb] 44)).cell? ⟨w.heap.size, 0, none⟩ = some (.int .i64 ak) := by go_simp
  have c2 : ((w.alloc (.cells #[.int .i64 ak, .int .i64 an, .string sa] 44)).alloc (.cells #[.int .i64 bk, .int .i64 bn, .string sb] 44)).cell? ⟨w.heap.size, 1, none⟩ = some (.int .i64 an) := by go_simp
  have c3 : ((w.alloc (.cells #[.int .i64 ak, .int .i64 an, .string sa] 44)).alloc (.cells #[.int .i64 bk, .int .i64 bn, .string sb] 44)).cell? ⟨w.heap.size, 2, none⟩ = some (.string sa) := by go_simp
  have c4 : ((w.alloc (.cells #[.int .i64 ak, .int .i64 an, .string sa] 44)).alloc (.cells #[.int .i64 bk, .int .i64 bn, .string sb] 44)).cell? ⟨w.heap.size + 1, 0, none⟩ = some (.int .i64 bk) := by go_simp
  have c5 : ((w.alloc (.cells #[.int .i64 ak, .int .i64 an, .string sa] 44)).alloc (.cells #[.int .i64 bk, .int .i64 bn, .string sb] 44)).cell? ⟨w.heap.size + 1, 1, none⟩ = some (.int .i64 bn) := by go_simp
  have c6 : ((w.alloc (.cells #[.int .i64 ak, .int .i64 an, .string sa] 44)).alloc (.cells #[.int .i64 bk, .int .i64 bn, .string sb] 44)).cell? ⟨w.heap.size + 1, 2, none⟩ = some (.string sb) := by go_simp
  have hxx := ((Gro.refl w).alloc (.cells #[.int .i64 ak, .int .i64 an, .string sa] 44)).alloc (.cells #[.int .i64 bk, .int .i64 bn, .string sb] 44)
  generalize ((w.alloc (.cells #[.int .i64 ak, .int .i64 an, .string sa] 44)).alloc (.cells #[.int .i64 bk, .int .i64 bn, .string sb] 44)) = w1 at c1 c2 c3 c4 c5 c6 hxx ⊢
  go_region_held3 (fun w' => Gro w w' ∧ w'.cell? ⟨w.heap.size, 0, none⟩ = some (.int .i64 ak) ∧ w'.cell? ⟨w.heap.size, 1, none⟩ = some (.int .i64 an) ∧ w'.cell? ⟨w.heap.size, 2, none⟩ = some (.string sa) ∧ w'.cell? ⟨w.heap.size + 1, 0, none⟩ = some (.int .i64 bk) ∧ w'.cell? ⟨w.heap.size + 1, 1, none⟩ = some (.int .i64 bn) ∧ w'.cell? ⟨w.heap.size + 1, 2, none⟩ = some (.string sb))
    (first | exact ⟨hxx.drew, c1, c2, c3, c4, c5, c6⟩ | assumption | exact keepG6 (by assumption) ((Gro.refl _).alloc _))
    (first | (go_at_call 112; refine (compare_int _ _ _).mono ?_; rintro e w2 ⟨rfl, rfl⟩) | (go_at_call 191; refine (compare_int64 _ _ _).mono ?_; rintro e w2 ⟨rfl, rfl⟩) | (go_at_call 192; refine (Tryz.strings_Compare _ _ _).mono ?_; rintro e w2 ⟨rfl, rfl⟩) | (go_at_call 114; refine (or_any w1.heap.size 0 3 [cmpI ak bk, cmpI an bn, cmpS sa sb] _ (by simp [maxLen]) (by exact fun k hk => or_new w1 [cmpI ak bk, cmpI an bn, cmpS sa sb] 3 k hk)).mono ?_; rintro e w2 ⟨rfl, rfl⟩))
  all_goals (obtain ⟨hfin, _⟩ := ‹Gro w _ ∧ _›)
  all_goals go_wp2_with fail
  all_goals go_ret
  all_goals exact ⟨rfl, hfin⟩

end Go.Proofs.YtdgpbpbjlnlijaaGreatDoor

/- Contracts of slices.CompareFunc at values, of value.CompareRows, of slices.Compare at ints. -/
namespace Go.Proofs.YtdgpbpbjlnlijaaGreatDoor
open Go.RowKit

/-- the lexicographic order by c -/
def lexI {α : Type} (c : α → α → Int) : List α → List α → Int
  | [], [] => 0
  | [], _ :: _ => -1
  | _ :: _, [] => 1
  | x :: xs, y :: ys => if c x y = 0 then lexI c xs ys else c x y
theorem lexI_drop {α : Type} (c : α → α → Int) (l l' : List α) (k : Nat) (h : k < l.length) (h' : k < l'.length) :
    lexI c (l.drop k) (l'.drop k) = if c l[k] l'[k] = 0 then lexI c (l.drop (k + 1)) (l'.drop (k + 1)) else c l[k] l'[k] := by
  rw [List.drop_eq_getElem_cons h, List.drop_eq_getElem_cons h']; rfl
theorem lexI_long {α : Type} (c : α → α → Int) (l l' : List α) (k : Nat) (h : k < l.length) (h' : l'.length ≤ k) : lexI c (l.drop k) (l'.drop k) = 1 := by
  rw [List.drop_eq_getElem_cons h, List.drop_eq_nil_of_le h']; rfl
theorem lexI_end {α : Type} (c : α → α → Int) (l l' : List α) : lexI c (l.drop l.length) (l'.drop l.length) = if l.length < l'.length then -1 else 0 := by
  rw [List.drop_length]
  split
  · rw [List.drop_eq_getElem_cons (by assumption)]; rfl
  · rw [List.drop_eq_nil_of_le (by omega)]; rfl
def cmpVals : List Val → List Val → Int := lexI cmpVal
def cmpInts : List Int → List Int → Int := lexI cmpI

set_option maxHeartbeats 2000000 in
theorem compareFunc_val (va vb : Value) (l l' : List Val) (w : World) (ha : SliceOf Rep.val w.cell? va l) (hb : SliceOf Rep.val w.cell? vb l') :
    Calls Tryz.prog 206 #[va, vb, .func (.func 136) #[] #[]] w
      fun e w' => e = .returned (.int .i64 (cmpVals l l')) ∧ Gro w w' := by
  obtain ⟨pa, ca, rfl, ha1, ha2, ha3⟩ := ha.form
  obtain ⟨pb, cb, rfl, hb1, hb2, hb3⟩ := hb.form
  unfold maxLen at ha2 hb2
  go_enter Tryz.func206, Tryz.ntmps206
  go_wp2_with fail
  go_loopg [13] l.length (fun gk i wr => ∃ k : Nat, k ≤ l.length ∧ gk = l.length - k ∧ i = .int .i64 k ∧ (k ≤ l'.length ∧ cmpVals l l' = lexI cmpVal (l.drop k) (l'.drop k)) ∧ Gro w wr)
  case atStart => exact ⟨0, by omega, rfl, rfl, ⟨by omega, rfl⟩, Gro.refl w⟩
  case round =>
    obtain ⟨k, hk, rfl, rfl, ⟨hk2, hc⟩, hx⟩ := hrel
    have HC := Lib.hid hc
    clear hc
    by_cases hlt : k < l.length
    · obtain ⟨ba, oa, rfl⟩ := ha3 (by decide) (by omega)
      obtain ⟨c1, c2, c3⟩ := val_at ha k hlt
      replace c1 := hx.at c1
      replace c2 := hx.at c2
      replace c3 := hx.at c3
      have hd : decide ((k : Int) < (l.length : Int)) = true := by simp; omega
      by_cases hlt2 : k < l'.length
      · obtain ⟨bb, ob, rfl⟩ := hb3 (by decide) (by omega)
        obtain ⟨d1, d2, d3⟩ := val_at hb k hlt2
        replace d1 := hx.at d1
        replace d2 := hx.at d2
        replace d3 := hx.at d3
        have hdr := lexI_drop cmpVal l l' k hlt hlt2
        have hd2 : (k : Int) < (l'.length : Int) := by omega
        generalize l[k] = x at c1 c2 c3 hdr
        generalize l'[k] = y at d1 d2 d3 hdr
        have HD := Lib.hid hdr
        clear hdr ha hb ha3 hb3
        have e1 := cell_lt c1
        have e2 := cell_lt d1
        go_wp2_with fail
        refine (compare_val x y _).mono ?_
        rintro e w1 ⟨rfl, hx1⟩
        replace hx := ((hx.alloc _).alloc _).trans hx1
        clear hx1 c1 c2 c3 d1 d2 d3 e1 e2
        generalize hq : cmpVal x y = q
        have HQ := Lib.hid hq
        clear hq
        by_cases hq0 : q = 0
        · have hqb : (q != 0) = false := by simp [hq0]
          have HQ0 := Lib.hid hq0
          clear hq0
          go_wp2_with fail
          go_roundg (l.length - (k + 1))
          case measure => omega
          case rel => exact ⟨k + 1, by omega, rfl, by go_num, ⟨by omega, by rw [HC.out, HD.out, HQ.out, if_pos HQ0.out]⟩, hx⟩
        · have hqb : (q != 0) = true := by simp [hq0]
          have HQ0 := Lib.hid hq0
          clear hq0
          go_wp2_with fail
          go_ret
          exact ⟨ret_int (by rw [HC.out, HD.out, HQ.out, if_neg HQ0.out]), hx⟩
      · have hlg := lexI_long cmpVal l l' k hlt (by omega)
        have HL := Lib.hid hlg
        clear hlg
        go_wp2_with fail
        go_ret
        exact ⟨ret_int (by rw [HC.out, HL.out]), hx.alloc _⟩
    · have : k = l.length := by omega
      subst this
      have hen := lexI_end cmpVal l l'
      have HE := Lib.hid hen
      clear hen
      by_cases hll : l.length < l'.length
      · go_wp2_with fail
        go_ret
        exact ⟨ret_int (by rw [HC.out, HE.out, if_pos hll]), hx⟩
      · go_wp2_with fail
        go_ret
        exact ⟨ret_int (by rw [HC.out, HE.out, if_neg hll]), hx⟩

theorem compareRows_any (va vb : Value) (l l' : List Val) (w : World) (ha : SliceOf Rep.val w.cell? va l) (hb : SliceOf Rep.val w.cell? vb l') :
    Calls Tryz.prog 144 #[va, vb] w fun e w' => e = .returned (.int .i64 (cmpVals l l')) ∧ Gro w w' := by
  have HA := Lib.hid ha
  have HB := Lib.hid hb
  obtain ⟨pa, ca, rfl, _⟩ := ha.form
  obtain ⟨pb, cb, rfl, _⟩ := hb.form
  clear ha hb
  go_enter Tryz.func144, Tryz.ntmps144
  go_wp2_with fail
  refine (compareFunc_val _ _ _ _ _ HA.out HB.out).mono ?_
  rintro e w1 ⟨rfl, hx⟩
  go_wp2_with fail
  go_ret
  exact ⟨rfl, hx⟩

set_option maxHeartbeats 2000000 in
theorem compare_ints (va vb : Value) (l l' : List Int) (w : World) (ha : SliceOf Rep.int w.cell? va l) (hb : SliceOf Rep.int w.cell? vb l') :
    Calls Tryz.prog 145 #[va, vb] w
      fun e w' => e = .returned (.int .i64 (cmpInts l l')) ∧ Gro w w' := by
  obtain ⟨pa, ca, rfl, ha1, ha2, ha3⟩ := ha.form
  obtain ⟨pb, cb, rfl, hb1, hb2, hb3⟩ := hb.form
  unfold maxLen at ha2 hb2
  go_enter Tryz.func145, Tryz.ntmps145
  go_wp2_with fail
  go_loopg [11] l.length (fun gk i wr => ∃ k : Nat, k ≤ l.length ∧ gk = l.length - k ∧ i = .int .i64 k ∧ (k ≤ l'.length ∧ cmpInts l l' = lexI cmpI (l.drop k) (l'.drop k)) ∧ Gro w wr)
  case atStart => exact ⟨0, by omega, rfl, rfl, ⟨by omega, rfl⟩, Gro.refl w⟩
  case round =>
    obtain ⟨k, hk, rfl, rfl, ⟨hk2, hc⟩, hx⟩ := hrel
    have HC := Lib.hid hc
    clear hc
    by_cases hlt : k < l.length
    · obtain ⟨ba, oa, rfl⟩ := ha3 (by decide) (by omega)
      obtain ⟨c1, _⟩ := int_at ha k hlt
      replace c1 := hx.at c1
      have hd : decide ((k : Int) < (l.length : Int)) = true := by simp; omega
      by_cases hlt2 : k < l'.length
      · obtain ⟨bb, ob, rfl⟩ := hb3 (by decide) (by omega)
        obtain ⟨d1, _⟩ := int_at hb k hlt2
        replace d1 := hx.at d1
        have hdr := lexI_drop cmpI l l' k hlt hlt2
        have hd2 : (k : Int) < (l'.length : Int) := by omega
        generalize l[k] = x at c1 hdr
        generalize l'[k] = y at d1 hdr
        have HD := Lib.hid hdr
        clear hdr ha hb ha3 hb3
        go_wp2_with fail
        refine (compare_int x y _).mono ?_
        rintro e w1 ⟨rfl, rfl⟩
        clear c1 d1
        generalize hq : cmpI x y = q
        have HQ := Lib.hid hq
        clear hq
        by_cases hq0 : q = 0
        · have hqb : (q != 0) = false := by simp [hq0]
          have HQ0 := Lib.hid hq0
          clear hq0
          go_wp2_with fail
          go_roundg (l.length - (k + 1))
          case measure => omega
          case rel => exact ⟨k + 1, by omega, rfl, by go_num, ⟨by omega, by rw [HC.out, HD.out, HQ.out, if_pos HQ0.out]⟩, hx⟩
        · have hqb : (q != 0) = true := by simp [hq0]
          have HQ0 := Lib.hid hq0
          clear hq0
          go_wp2_with fail
          go_ret
          exact ⟨ret_int (by rw [HC.out, HD.out, HQ.out, if_neg HQ0.out]), hx⟩
      · have hlg := lexI_long cmpI l l' k hlt (by omega)
        have HL := Lib.hid hlg
        clear hlg
        go_wp2_with fail
        go_ret
        exact ⟨ret_int (by rw [HC.out, HL.out]), hx⟩
    · have : k = l.length := by omega
      subst this
      have hen := lexI_end cmpI l l'
      have HE := Lib.hid hen
      clear hen
      by_cases hll : l.length < l'.length
      · go_wp2_with fail
        go_ret
        exact ⟨ret_int (by rw [HC.out, HE.out, if_pos hll]), hx⟩
      · go_wp2_with fail
        go_ret
        exact ⟨ret_int (by rw [HC.out, HE.out, if_neg hll]), hx⟩

/-- the canonical order of rows -/
def cmpRow (a b : Row) : Int := orI [cmpVals a.vals b.vals, cmpInts a.lin b.lin]

set_option maxHeartbeats 1000000 in
theorem compareRow_any (va vb ua ub : Value) (a b : Row) (w : World) (ha : SliceOf Rep.val w.cell? va a.vals) (hb : SliceOf Rep.val w.cell? vb b.vals) (ka : SliceOf Rep.int w.cell? ua a.lin) (kb : SliceOf Rep.int w.cell? ub b.lin) :
    Calls Tryz.prog 103 #[.agg #[va, ua], .agg #[vb, ub]] w fun e w' => e = .returned (.int .i64 (cmpRow a b)) ∧ Gro w w' := by
  have HA := Lib.hid ha
  have HB := Lib.hid hb
  have KA := Lib.hid ka
  have KB := Lib.hid kb
  obtain ⟨pa, ca, rfl, _⟩ := ha.form
  obtain ⟨pb, cb, rfl, _⟩ := hb.form
  obtain ⟨qa, da, rfl, _⟩ := ka.form
  obtain ⟨qb, db, rfl, _⟩ := kb.form
  unfold cmpRow
  generalize a.vals = av at *
  generalize b.vals = bv at *
  generalize a.lin = al at *
  generalize b.lin = bl at *
  clear ha hb ka kb
  go_enter Tryz.func103, Tryz.ntmps103
  go_wp2_with fail
  have c1 : ((w.alloc (.cells #[.slice pa av.length ca, .slice qa al.length da] 42)).alloc (.cells #[.slice pb bv.length cb, .slice qb bl.length db] 42)).cell? ⟨w.heap.size, 0, none⟩ = some (.slice pa av.length ca) := by go_simp
  have c2 : ((w.alloc (.cells #[.slice pa av.length ca, .slice qa al.length da] 42)).alloc (.cells #[.slice pb bv.length cb, .slice qb bl.length db] 42)).cell? ⟨w.heap.size, 1, none⟩ = some (.slice qa al.length da) := by go_simp
  have c3 : ((w.alloc (.cells #[.slice pa av.length ca, .slice qa al.length da] 42)).alloc (.cells #[.slice pb bv.length cb, .slice qb bl.length db] 42)).cell? ⟨w.heap.size + 1, 0, none⟩ = some (.slice pb bv.length cb) := by go_simp
  have c4 : ((w.alloc (.cells #[.slice pa av.length ca, .slice qa al.length da] 42)).alloc (.cells #[.slice pb bv.length cb, .slice qb bl.length db] 42)).cell? ⟨w.heap.size + 1, 1, none⟩ = some (.slice qb bl.length db) := by go_simp
  have hxx := ((Gro.refl w).alloc (.cells #[.slice pa av.length ca, .slice qa al.length da] 42)).alloc (.cells #[.slice pb bv.length cb, .slice qb bl.length db] 42)
  generalize ((w.alloc (.cells #[.slice pa av.length ca, .slice qa al.length da] 42)).alloc (.cells #[.slice pb bv.length cb, .slice qb bl.length db] 42)) = w1 at c1 c2 c3 c4 hxx ⊢
  go_region_held3 (fun w' => Gro w w' ∧ w'.cell? ⟨w.heap.size, 0, none⟩ = some (.slice pa av.length ca) ∧ w'.cell? ⟨w.heap.size, 1, none⟩ = some (.slice qa al.length da) ∧ w'.cell? ⟨w.heap.size + 1, 0, none⟩ = some (.slice pb bv.length cb) ∧ w'.cell? ⟨w.heap.size + 1, 1, none⟩ = some (.slice qb bl.length db))
    (first | exact ⟨hxx.drew, c1, c2, c3, c4⟩ | assumption | exact keepG4 (by assumption) hx3 | exact keepG4 (by assumption) hx2 | exact keepG4 (by assumption) ((Gro.refl _).alloc _))
    (first | (go_at_call 144; refine (compareRows_any _ _ av bv _ (by exact HA.out.ext (And.left ‹Gro w _ ∧ _›).ext.full) (by exact HB.out.ext (And.left ‹Gro w _ ∧ _›).ext.full)).mono ?_; rintro e w2 ⟨rfl, hx2⟩) | (go_at_call 145; refine (compare_ints _ _ al bl _ (by exact KA.out.ext (And.left ‹Gro w _ ∧ _›).ext.full) (by exact KB.out.ext (And.left ‹Gro w _ ∧ _›).ext.full)).mono ?_; rintro e w3 ⟨rfl, hx3⟩) | (go_at_call 114; refine (or_any _ 0 2 [cmpVals av bv, cmpInts al bl] _ (by simp [maxLen]) (by exact fun k hk => or_new w3 [cmpVals av bv, cmpInts al bl] 3 k hk)).mono ?_; rintro e w4 ⟨rfl, rfl⟩))
  all_goals (obtain ⟨hfin, _⟩ := ‹Gro w _ ∧ _›)
  all_goals go_wp2_with fail
  all_goals go_ret
  all_goals exact ⟨rfl, hfin⟩

end Go.Proofs.YtdgpbpbjlnlijaaGreatDoor

/- The orders of values, of lists and of rows are total; no program is named here. -/
namespace Go.Proofs.YtdgpbpbjlnlijaaGreatDoor

/-- c compares as a total order does, by -1, 0 and 1 -/
structure Ord3 {α : Type} (c : α → α → Int) : Prop where
  rng : ∀ x y, c x y = -1 ∨ c x y = 0 ∨ c x y = 1
  eq : ∀ x y, c x y = 0 ↔ x = y
  anti : ∀ x y, c y x = -c x y
  tr : ∀ x y z, c x y < 0 → c y z < 0 → c x z < 0

theorem ord_int : Ord3 cmpI where
  rng x y := by unfold cmpI; (repeat' split) <;> omega
  eq x y := by unfold cmpI; (repeat' split) <;> omega
  anti x y := by unfold cmpI; (repeat' split) <;> omega
  tr x y z := by unfold cmpI; (repeat' split) <;> omega

theorem ord_bytes : Ord3 Lib.compareBytes where
  rng x := by
    induction x with
    | nil => intro y; cases y <;> simp [Lib.compareBytes]
    | cons a x ih => intro y; cases y with
      | nil => simp [Lib.compareBytes]
      | cons b y =>
        simp only [Lib.compareBytes]
        split
        · simp
        · split
          · simp
          · exact ih y
  eq x := by
    induction x with
    | nil => intro y; cases y <;> simp [Lib.compareBytes]
    | cons a x ih => intro y; cases y with
      | nil => simp [Lib.compareBytes]
      | cons b y =>
        simp only [Lib.compareBytes, List.cons.injEq]
        split
        · rename_i h
          simp
          intro e; subst e; simp at h
        · split
          · rename_i h
            simp
            intro e; subst e; simp at h
          · rename_i h1 h2
            have : a = b := UInt8.le_antisymm (UInt8.not_lt.1 h2) (UInt8.not_lt.1 h1)
            simp [this, ih y]
  anti x := by
    induction x with
    | nil => intro y; cases y <;> simp [Lib.compareBytes]
    | cons a x ih => intro y; cases y with
      | nil => simp [Lib.compareBytes]
      | cons b y =>
        simp only [Lib.compareBytes]
        by_cases h1 : a < b
        · have h2 : ¬ b < a := UInt8.not_lt.2 (UInt8.le_of_lt h1)
          simp [h1, h2]
        · by_cases h2 : b < a
          · simp [h1, h2]
          · simp [h1, h2, ih y]
  tr x := by
    induction x with
    | nil => intro y z; cases y <;> cases z <;> simp [Lib.compareBytes]
    | cons a x ih => intro y z; cases y with
      | nil => simp [Lib.compareBytes]
      | cons b y => cases z with
        | nil => simp [Lib.compareBytes]
        | cons d z =>
          simp only [Lib.compareBytes]
          intro h1 h2
          by_cases ab : a < b
          · by_cases bd : b < d
            · simp [UInt8.lt_trans ab bd]
            · by_cases db : d < b
              · simp [bd, db] at h2
              · have : b = d := UInt8.le_antisymm (UInt8.not_lt.1 db) (UInt8.not_lt.1 bd)
                subst this
                simp [ab]
          · by_cases ba : b < a
            · simp [ab, ba] at h1
            · have : a = b := UInt8.le_antisymm (UInt8.not_lt.1 ba) (UInt8.not_lt.1 ab)
              subst this
              simp [ab] at h1
              by_cases bd : a < d
              · simp [bd]
              · by_cases db : d < a
                · simp [bd, db] at h2
                · simp [bd, db] at h2 ⊢
                  exact ih y z h1 h2

theorem ord_pull {α β : Type} {c : β → β → Int} (h : Ord3 c) (f : α → β) (inj : ∀ x y, f x = f y → x = y) : Ord3 fun x y => c (f x) (f y) where
  rng x y := h.rng _ _
  eq x y := (h.eq _ _).trans ⟨inj x y, fun e => by rw [e]⟩
  anti x y := h.anti _ _
  tr x y z := h.tr _ _ _

theorem ord_then {α β γ : Type} {c : β → β → Int} {d : γ → γ → Int} (h : Ord3 c) (k : Ord3 d) (f : α → β) (g : α → γ) (inj : ∀ x y, f x = f y → g x = g y → x = y) :
    Ord3 fun x y => if c (f x) (f y) = 0 then d (g x) (g y) else c (f x) (f y) where
  rng x y := by
    split
    · exact k.rng _ _
    · exact h.rng _ _
  eq x y := by
    split
    · rename_i e
      exact ⟨fun e2 => inj x y ((h.eq _ _).1 e) ((k.eq _ _).1 e2), fun e2 => (k.eq _ _).2 (by rw [e2])⟩
    · rename_i e
      exact ⟨fun e2 => (e e2).elim, fun e2 => (h.eq _ _).2 (by rw [e2])⟩
  anti x y := by
    rw [h.anti (f x) (f y), k.anti (g x) (g y)]
    split <;> split <;> omega
  tr x y z := by
    intro h1 h2
    by_cases e1 : c (f x) (f y) = 0
    · rw [if_pos e1] at h1
      have : f x = f y := (h.eq _ _).1 e1
      rw [this]
      by_cases e2 : c (f y) (f z) = 0
      · rw [if_pos e2] at h2 ⊢
        exact k.tr _ _ _ h1 h2
      · rw [if_neg e2] at h2 ⊢
        exact h2
    · rw [if_neg e1] at h1
      by_cases e2 : c (f y) (f z) = 0
      · have : f y = f z := (h.eq _ _).1 e2
        rw [← this, if_neg e1]
        exact h1
      · rw [if_neg e2] at h2
        have := h.tr _ _ _ h1 h2
        rw [if_neg (by omega)]
        exact this

theorem ord_lex {α : Type} {c : α → α → Int} (h : Ord3 c) : Ord3 (lexI c) where
  rng x := by
    induction x with
    | nil => intro y; cases y <;> simp [lexI]
    | cons a x ih => intro y; cases y with
      | nil => simp [lexI]
      | cons b y =>
        simp only [lexI]
        split
        · exact ih y
        · exact h.rng _ _
  eq x := by
    induction x with
    | nil => intro y; cases y <;> simp [lexI]
    | cons a x ih => intro y; cases y with
      | nil => simp [lexI]
      | cons b y =>
        simp only [lexI, List.cons.injEq]
        split
        · rename_i e
          rw [ih y]
          simp [(h.eq _ _).1 e]
        · rename_i e
          simp [e]
          intro e2
          exact (e ((h.eq _ _).2 e2)).elim
  anti x := by
    induction x with
    | nil => intro y; cases y <;> simp [lexI]
    | cons a x ih => intro y; cases y with
      | nil => simp [lexI]
      | cons b y =>
        simp only [lexI]
        rw [h.anti a b, ih y]
        split <;> split <;> omega
  tr x := by
    induction x with
    | nil => intro y z; cases y <;> cases z <;> simp [lexI]
    | cons a x ih => intro y z; cases y with
      | nil => simp [lexI]
      | cons b y => cases z with
        | nil => simp [lexI]
        | cons d z =>
          simp only [lexI]
          intro h1 h2
          by_cases e1 : c a b = 0
          · have : a = b := (h.eq _ _).1 e1
            subst this
            rw [if_pos e1] at h1
            by_cases e2 : c a d = 0
            · rw [if_pos e2] at h2 ⊢
              exact ih _ _ h1 h2
            · rw [if_neg e2] at h2 ⊢
              exact h2
          · rw [if_neg e1] at h1
            by_cases e2 : c b d = 0
            · have : b = d := (h.eq _ _).1 e2
              subst this
              rw [if_neg e1]
              exact h1
            · rw [if_neg e2] at h2
              have := h.tr _ _ _ h1 h2
              rw [if_neg (by omega)]
              exact this

theorem ord_str : Ord3 cmpS := ord_pull ord_bytes (fun s : ByteArray => s.data.toList) fun x y h => by
  obtain ⟨⟨x⟩⟩ := x
  obtain ⟨⟨y⟩⟩ := y
  simp at h
  rw [h]
theorem ord_val : Ord3 cmpVal := by
  have h := ord_then (α := Val) ord_int (ord_then (α := Int × ByteArray) ord_int ord_str (fun p => p.1) (fun p => p.2) (fun x y h1 h2 => Prod.ext h1 h2)) (fun v => v.kind) (fun v => (v.n, v.s))
    (fun x y h1 h2 => by cases x; cases y; simp at h1 h2; rw [h1, h2.1, h2.2])
  have e : (fun x y : Val => if cmpI x.kind y.kind = 0 then (if cmpI x.n y.n = 0 then cmpS x.s y.s else cmpI x.n y.n) else cmpI x.kind y.kind) = cmpVal := by
    funext x y
    unfold cmpVal orI orI orI orI
    split
    · split
      · split
        · omega
        · rfl
      · rfl
    · rfl
  rw [← e]; exact h
theorem ord_vals : Ord3 cmpVals := ord_lex ord_val
theorem ord_ints : Ord3 cmpInts := ord_lex ord_int
theorem ord_row : Ord3 cmpRow := by
  have h := ord_then ord_vals ord_ints (fun r : Row => r.vals) (fun r => r.lin) (fun x y h1 h2 => by cases x; cases y; simp at h1 h2; rw [h1, h2])
  have e : (fun x y : Row => if cmpVals x.vals y.vals = 0 then cmpInts x.lin y.lin else cmpVals x.vals y.vals) = cmpRow := by
    funext x y
    unfold cmpRow orI orI orI
    split
    · split
      · omega
      · rfl
    · rfl
  rw [← e]; exact h

end Go.Proofs.YtdgpbpbjlnlijaaGreatDoor

/- slices.SortFunc at the call's own row of data of several cells each: the row holds the same data sorted by a total order. -/
namespace Go.Proofs.YtdgpbpbjlnlijaaGreatDoor
open Go.RowKit Go.Shelf Go.Sort

/-- a list sorted by a total order -/
def sortBy {α : Type} (c : α → α → Int) (l : List α) : List α := l.mergeSort fun a b => decide (c a b ≤ 0)
theorem Ord3.le_tr {α : Type} {c : α → α → Int} (h : Ord3 c) (x y z : α) (h1 : c x y ≤ 0) (h2 : c y z ≤ 0) : c x z ≤ 0 := by
  by_cases e1 : c x y = 0
  · rw [(h.eq _ _).1 e1]; exact h2
  · by_cases e2 : c y z = 0
    · rw [← (h.eq _ _).1 e2]; exact h1
    · have := h.tr x y z (by omega) (by omega); omega
theorem Ord3.le_total {α : Type} {c : α → α → Int} (h : Ord3 c) (x y : α) : c x y ≤ 0 ∨ c y x ≤ 0 := by
  have := h.anti x y
  omega
theorem Ord3.le_anti {α : Type} {c : α → α → Int} (h : Ord3 c) (x y : α) (h1 : c x y ≤ 0) (h2 : c y x ≤ 0) : x = y := by
  have := h.anti x y
  exact (h.eq x y).1 (by omega)
theorem sortBy_perm {α : Type} (c : α → α → Int) (l : List α) : (sortBy c l).Perm l := List.mergeSort_perm _ _
theorem sortBy_pair {α : Type} {c : α → α → Int} (h : Ord3 c) (l : List α) : (sortBy c l).Pairwise fun a b => c a b ≤ 0 := by
  have := List.pairwise_mergeSort (le := fun a b => decide (c a b ≤ 0)) (fun a b d h1 h2 => by simp only [decide_eq_true_eq] at *; exact h.le_tr a b d h1 h2)
    (fun a b => by simp only [Bool.or_eq_true, decide_eq_true_eq]; exact h.le_total a b) l
  exact this.imp (by simp)
theorem sortBy_unique {α : Type} {c : α → α → Int} (h : Ord3 c) {l l' : List α} (hp : l'.Perm l) (hs : l'.Pairwise fun a b => c a b ≤ 0) : l' = sortBy c l :=
  List.Perm.eq_of_pairwise (le := fun a b => c a b ≤ 0) (fun a b _ _ h1 h2 => h.le_anti a b h1 h2) hs (sortBy_pair h l) (hp.trans (sortBy_perm c l).symm)
theorem sortBy_length {α : Type} (c : α → α → Int) (l : List α) : (sortBy c l).length = l.length := (sortBy_perm c l).length_eq

theorem Ord3.swo {α : Type} {c : α → α → Int} (h : Ord3 c) : SWO (ltOf c) where
  irrefl x := by unfold ltOf; rw [(h.eq x x).2 rfl]; rfl
  trans x y z h1 h2 := by unfold ltOf at *; simp only [decide_eq_true_eq] at *; exact h.tr x y z h1 h2
  ntrans x y z h1 h2 := by
    unfold ltOf at *
    simp only [decide_eq_false_iff_not] at *
    have a1 := h.anti x y
    have a2 := h.anti y z
    have a3 := h.anti x z
    have := h.le_tr z y x (by omega) (by omega)
    omega

theorem repAll_len' {α : Type} {R : Rep α} {h : View} {css : List (List Value)} {ys : List α} (k : RepAll R h css ys) : ∀ c ∈ css, c.length = R.size := by
  induction css generalizing ys with
  | nil => simp
  | cons c css ih =>
    cases ys with
    | nil => exact k.elim
    | cons y ys =>
      intro d hd
      rcases List.mem_cons.1 hd with rfl | hd
      · exact R.len k.1
      · exact ih k.2 d hd
theorem flatK_toList {β : Type} [Inhabited β] (enc : β → List Value) (k : Nat) (hk : ∀ x, (enc x).length = k) (d : Array β) : (flatK enc k d).toList = (d.toList.map enc).flatten := by
  apply List.ext_getElem?
  intro t
  have hlen : ∀ l : List β, ((l.map enc).flatten).length = l.length * k := by
    intro l
    induction l with
    | nil => simp
    | cons x l ih => rw [List.map_cons, List.flatten_cons, List.length_append, hk, ih, List.length_cons, Nat.succ_mul]; omega
  by_cases ht : t < d.size * k
  · have hkp : 0 < k := by
      rcases Nat.eq_zero_or_pos k with h | h
      · subst h; simp at ht
      · exact h
    have h1 := get_flatK enc k d t ht
    rw [getElem!_pos _ t (by simpa using ht)] at h1
    rw [Array.getElem?_toList, Array.getElem?_eq_getElem (by simpa using ht), h1]
    have hdiv : t / k < d.size := by rw [Nat.div_lt_iff_lt_mul hkp]; exact ht
    have hmod : t % k < k := Nat.mod_lt _ hkp
    have key : ∀ (l : List β) (i r : Nat) (x : β), l[i]? = some x → r < k → (l.map enc).flatten[i * k + r]? = some ((enc x)[r]!) := by
      intro l
      induction l with
      | nil => intro i r x h; simp at h
      | cons y l ih =>
        intro i r x h hr
        cases i with
        | zero =>
          simp at h
          subst h
          rw [List.map_cons, List.flatten_cons, Nat.zero_mul, Nat.zero_add, List.getElem?_append_left (by rw [hk]; exact hr)]
          rw [getElem!_pos _ r (by rw [hk]; exact hr), List.getElem?_eq_getElem]
        | succ i =>
          rw [List.map_cons, List.flatten_cons, List.getElem?_append_right (by rw [hk, Nat.succ_mul]; omega), hk]
          rw [show (i + 1) * k + r - k = i * k + r from by rw [Nat.succ_mul]; omega]
          exact ih i r x (by simpa using h) hr
    have := key d.toList (t / k) (t % k) (d[t / k]!) (by rw [getElem!_pos d _ hdiv, Array.getElem?_toList, Array.getElem?_eq_getElem hdiv]) hmod
    rw [show t / k * k + t % k = t from by rw [Nat.mul_comm]; exact Nat.div_add_mod t k] at this
    rw [this]
  · rw [List.getElem?_eq_none (by simpa using Nat.le_of_not_lt ht), List.getElem?_eq_none (by rw [hlen]; simpa using Nat.le_of_not_lt ht)]

theorem repAll_map {α β : Type} (R : Rep α) (h : View) (l : List β) (f : β → List Value) (g : β → α) (hl : ∀ i ∈ l, R.holds h (f i) (g i)) : RepAll R h (l.map f) (l.map g) := by
  induction l with
  | nil => trivial
  | cons i l ih => exact ⟨hl i (by simp), ih fun j hj => hl j (by simp [hj])⟩

section
variable {β : Type} [Inhabited β] (enc : β → List Value) (k : Nat) (w : World) (blk off m : Nat) (dk : Array β) (os : Array Obj)
theorem sortWorld_block (i : Nat) (hi : i < w.heap.size) (hne : i ≠ blk) : (sortWorldK enc k w blk off m dk os).heap[i]? = w.heap[i]? := by
  unfold sortWorldK
  rw [heap_grow_old _ _ (by simpa [putRowK, putRow, mapBlock, ahead] using hi)]
  simp [putRowK, putRow, mapBlock, Array.getElem?_modify, Ne.symm hne]
theorem sortWorld_row (cur : Array Value) (e : TypeId) (fr : Nat × Nat) (hb : w.heap[blk]? = some (.cells cur e fr)) :
    (sortWorldK enc k w blk off m dk os).heap[blk]? = some (.cells (putCells id off (flatK enc k dk) cur) e fr) := by
  have hlt : blk < w.heap.size := (Array.getElem?_eq_some_iff.1 hb).1
  unfold sortWorldK
  rw [heap_grow_old _ _ (by simpa [putRowK, putRow, mapBlock, ahead] using hlt)]
  simp [putRowK, putRow, mapBlock, Array.getElem?_modify, hb, onCells]
theorem sortWorld_grown : w.grownBy (sortWorldK enc k w blk off m dk os) (some blk) :=
  ⟨rfl, rfl, rfl, by simp [sortWorldK, putRowK, putRow, mapBlock], fun i hi hne => sortWorld_block enc k w blk off m dk os i hi (fun e => hne (by rw [e]))⟩
end

theorem extract_all {β : Type} (a : Array β) (n : Nat) (h : a.size = n) : a.extract 0 n = a := by subst h; simp
theorem finRange_get {β : Type} (l : List β) : (List.finRange l.length).map (fun i => l.get i) = l := by
  apply List.ext_getElem
  · simp
  · intro i h1 h2; simp
theorem swo_pull {α β : Type} {c : α → α → Int} (h : SWO (ltOf c)) (f : β → α) : SWO (ltOf fun i j => c (f i) (f j)) where
  irrefl x := h.irrefl (f x)
  trans x y z := h.trans (f x) (f y) (f z)
  ntrans x y z := h.ntrans (f x) (f y) (f z)

theorem sortFunc_gen {P : Program} {α : Type} (R : Rep α) (c : α → α → Int) (hc : SWO (ltOf c)) (g f lim : Nat)
    (hsort : ∀ (β : Type) [Inhabited β] (enc : β → List Value) (_ : ∀ x, (enc x).length = R.size) (_ : ∀ x, ∀ v ∈ enc x, v.oneCell' = true) (cf : β → β → Int) (_ : SWO (ltOf cf)) (blk off cap : Nat) (d : Array β) (w : World)
      (_ : CmpLays P g #[] enc R.size cf blk off d.size w) (_ : HoldsK enc R.size w blk off d) (_ : blk < w.heap.size) (_ : d.size < lim),
      Calls P f #[.slice (some ⟨blk, off, none⟩) d.size cap, .func (.func g) #[] #[]] w fun e w' => e = .returned (.tuple #[]) ∧ ∃ d' n os, PermIn 0 d.size d d' ∧ SortedIn (ltOf cf) 0 d.size d' ∧ w' = sortWorldK enc R.size w blk off n d' os)
    (hnone : ∀ p cap w, Calls P f #[.slice p 0 cap, .func (.func g) #[] #[]] w fun e w' => e = .returned (.tuple #[]) ∧ w' = w)
    (hcmp : ∀ (W : World) (x y : α) (cx cy : List Value), R.holds W.cell? cx x → R.holds W.cell? cy y → Calls P g #[.agg cx.toArray, .agg cy.toArray] W fun e w' => e = .returned (.int .i64 (c x y)) ∧ Gro W w')
    (w : World) (S : Nat → Prop) (base : Nat) (e : TypeId) (v : Value) (xs : List α) (hown : OwnOf R w S base e v xs) (hlen : xs.length < lim) :
    Calls P f #[v, .func (.func g) #[] #[]] w fun en w' => ∃ ys, en = .returned (.tuple #[]) ∧ ys.Perm xs ∧ (ys.Pairwise fun a b => ¬ c b a < 0) ∧ OwnOf R w' S base e v ys ∧ w.grownBy w' v.ownBlock := by
  obtain ⟨css, h1, h2⟩ := hown
  have hcl := h1.length
  by_cases hn : 0 < xs.length
  · obtain ⟨h2l, h2⟩ := h2
    rcases h2 with ⟨_, h0⟩ | ⟨gB, cap, cur, rfl, hb, hh, hc1, hc2, hsz, htk⟩
    · omega
    have hlt : gB < w.heap.size := (Array.getElem?_eq_some_iff.1 hh).1
    haveI : Inhabited (Fin xs.length) := ⟨⟨0, hn⟩⟩
    generalize hencd : (fun i : Fin xs.length => css[i.1]'(by rw [hcl]; exact i.2)) = enc
    have henc : ∀ i, enc i = css[i.1]'(by rw [hcl]; exact i.2) := fun i => by rw [← hencd]
    have hel : ∀ i, (enc i).length = R.size := fun i => by rw [henc]; exact repAll_len' h1 _ (List.getElem_mem _)
    have hen : ∀ i, R.holds (on w (avoid S (.slice (some ⟨gB, 0, none⟩) xs.length cap))) (enc i) (xs.get i) := fun i => by
      obtain ⟨d, g1, g2, _⟩ := h1.at i.1 i.2
      rw [henc]
      rw [List.getElem?_eq_getElem (by rw [hcl]; exact i.2)] at g2
      injection g2 with g2
      rw [g2]; exact g1
    generalize hd : (List.finRange xs.length).toArray = d
    have hds : d.size = xs.length := by rw [← hd]; simp
    have hdl : d.toList = List.finRange xs.length := by rw [← hd]
    have hflat : (flatK enc R.size d).toList = css.flatten := by
      rw [flatK_toList enc R.size hel, ← hd]
      congr 1
      apply List.ext_getElem
      · simp [hcl]
      · intro i a1 a2
        simp [henc]
    have hH : HoldsK enc R.size w gB 0 d := by
      intro j hj
      have hj' : j < css.flatten.length := by rw [← hflat]; simpa using hj
      constructor
      · have hu : css.flatten[j]? = some (id (flatK enc R.size d)[j]!) := by
          rw [← hflat, Array.getElem?_toList, Array.getElem?_eq_getElem hj, getElem!_pos (flatK enc R.size d) _ hj]; rfl
        rw [Nat.zero_add, cell_of_row w gB j cur e (0, 0) hh]
        rw [← htk, List.getElem?_take] at hu
        split at hu
        · simpa using hu
        · cases hu
      · simp [World.frozen?, hh]
    have hsub : ∀ (m : Nat) (dk : Array (Fin xs.length)) (os : Array Obj), Sub (on w (avoid S (.slice (some ⟨gB, 0, none⟩) xs.length cap))) (on (sortWorldK enc R.size w gB 0 m dk os) (avoid S (.slice (some ⟨gB, 0, none⟩) xs.length cap))) :=
      fun m dk os => grown_sub (sortWorld_grown enc R.size w gB 0 m dk os) fun i hi => hi.1
    have hcon := hsort (Fin xs.length) enc hel (fun x u hu => R.one (hen x) u hu) (fun i j => c (xs.get i) (xs.get j)) (swo_pull hc fun i : Fin xs.length => (xs.get i)) gB 0 cap d w
      (fun m os dk _ x y => by
        refine (hcmp _ (xs.get x) (xs.get y) (enc x) (enc y) (R.ext (hen x) ((hsub m dk os).trans (on_sub _ _))) (R.ext (hen y) ((hsub m dk os).trans (on_sub _ _)))).mono ?_
        rintro en w' ⟨rfl, hg⟩
        exact ⟨rfl, hg.grown⟩) hH hlt (by rw [hds]; exact hlen)
    rw [hds] at hcon
    refine hcon.mono ?_
    rintro en w' ⟨rfl, d', n', os, ⟨hp1, _, hp3⟩, hso, rfl⟩
    have hds' : d'.size = xs.length := by rw [hp1, hds]
    have hperm : d'.toList.Perm d.toList := by
      rwa [extract_all d' _ hds', extract_all d _ hds] at hp3
    have hlen' : (d'.toList.map (fun i : Fin xs.length => (xs.get i))).length = xs.length := by simp [hds']
    refine ⟨d'.toList.map (fun i : Fin xs.length => (xs.get i)), rfl, ?_, ?_, ⟨d'.toList.map enc, ?_, ?_, .inr ⟨gB, cap, putCells id 0 (flatK enc R.size d') cur, ?_, hb, sortWorld_row enc R.size w gB 0 n' d' os cur e (0, 0) hh, ?_, hc2, ?_, ?_⟩⟩, sortWorld_grown enc R.size w gB 0 n' d' os⟩
    · have := hperm.map fun i : Fin xs.length => (xs.get i)
      rw [hdl] at this
      exact this.trans (by rw [finRange_get])
    · rw [List.pairwise_iff_getElem]
      intro i j hi hj hij
      simp at hi hj
      have hs := hso i j (Nat.zero_le _) hij (by omega)
      unfold ltOf at hs
      simp only [decide_eq_false_iff_not] at hs
      rw [getElem!_pos d' j hj, getElem!_pos d' i hi] at hs
      simpa only [List.getElem_map, Array.getElem_toList] using hs
    · exact repAll_map R _ d'.toList enc _ fun i _ => R.ext (hen i) (hsub _ _ _)
    · rw [hlen', ← flatK_toList enc R.size hel]; simp [hds']
    · rw [hlen']
    · rw [hlen']; exact hc1
    · simp [putCells, hsz]
    · rw [hlen', ← flatK_toList enc R.size hel]
      apply List.ext_getElem?
      intro j
      rw [List.getElem?_take]
      by_cases hj : j < xs.length * R.size
      · have hjc : j < cur.size := by rw [hsz]; exact Nat.lt_of_lt_of_le hj (Nat.mul_le_mul_right _ hc1)
        rw [if_pos hj]
        simp [putCells, hjc, hds', hj]
      · rw [if_neg hj, List.getElem?_eq_none (by simpa [hds'] using Nat.le_of_not_lt hj)]
  · have hxs : xs = [] := List.eq_nil_of_length_eq_zero (by omega)
    subst hxs
    have hform : ∃ p cap, v = .slice p 0 cap := by
      rcases h2.2 with ⟨rfl, _⟩ | ⟨gB, cap, cur, rfl, _⟩
      · exact ⟨_, _, rfl⟩
      · exact ⟨_, _, rfl⟩
    obtain ⟨p, cap, rfl⟩ := hform
    refine (hnone p cap w).mono ?_
    rintro en w' ⟨rfl, rfl⟩
    exact ⟨[], rfl, List.Perm.refl _, List.Pairwise.nil, ⟨css, h1, h2⟩, ⟨rfl, rfl, rfl, Nat.le_refl _, fun _ _ _ => rfl⟩⟩

theorem sortFunc_rep {P : Program} {ρ : Ren} {α : Type} (L : SlLaysF0.n6 P ρ) (R : Rep α) (k : Nat) (hk : R.size = k) (hk0 : 0 < k)
    (aE : ∀ w, (isAgg (ρ.t 24)).run P w = .ok true w) (zE : ∀ w, (Go.sizeOf (ρ.t 24)).run P w = .ok k w) (c : α → α → Int) (hc : Ord3 c) (g : Nat)
    (eg : ∀ args w, (callFunc g args).run P w = .ok (.enter g args) w)
    (hcmp : ∀ (W : World) (x y : α) (cx cy : List Value), R.holds W.cell? cx x → R.holds W.cell? cy y → Calls P g #[.agg cx.toArray, .agg cy.toArray] W fun e w' => e = .returned (.int .i64 (c x y)) ∧ Gro W w')
    (w : World) (S : Nat → Prop) (base : Nat) (e : TypeId) (v : Value) (xs : List α) (hown : OwnOf R w S base e v xs) (hlen : xs.length < 4611686018427387904) :
    Calls P (ρ.f 6) #[v, .func (.func g) #[] #[]] w fun en w' => en = .returned (.tuple #[]) ∧ OwnOf R w' S base e v (sortBy c xs) ∧ w.grownBy w' v.ownBlock := by
  subst hk
  refine (sortFunc_gen (P := P) R c hc.swo g (ρ.f 6) 4611686018427387904 (fun β _ enc hel h1 cf hO blk off cap d w hcmp hH hblk hsz => AnyQ.slices_SortFunc L R.size aE zE enc hel h1 cf hO g #[] blk off cap d w eg hcmp hH hblk hsz)
    (fun p cap w => AnyF.slices_SortFunc_none L p cap (.func (.func g) #[] #[]) w) hcmp w S base e v xs hown hlen).mono ?_
  rintro en w' ⟨ys, rfl, hp, hs, ho, hg⟩
  have hys : ys = sortBy c xs := sortBy_unique hc hp (hs.imp fun {a b} h => by
    have := hc.anti a b
    omega)
  exact ⟨rfl, hys ▸ ho, hg⟩

end Go.Proofs.YtdgpbpbjlnlijaaGreatDoor
