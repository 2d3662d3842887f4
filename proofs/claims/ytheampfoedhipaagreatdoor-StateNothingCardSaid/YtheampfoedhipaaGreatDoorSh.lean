/-
  DERIVED: THE SHELF's CONTRACTS AT THIS DUMP, IN PLAIN WORDS (tools/lay-plain.mjs out of 'TryzShelf.lean', which tools/lay-shelf.mjs wrote): THE SAME DECLARATIONS UNDER THE SAME NAMES: 'import', 'namespace', 'open', 'def', 'theorem' AND NOTHING ELSE: no command of the shelf's: FOR A HAND-IN. Each laying: the table of numbers ('.._ren') and one theorem, a field a fact of the dump's own or the kernel's comparison; each contract: ONE APPLICATION.
-/
import Derived.Shelf.Strings.Builder1
import Derived.Shelf.Strings.Builder2
import Derived.Shelf.Strings.OnBuilder
import Derived.Shelf.Small.Bits
import Derived.Shelf.Strconv.Itoa0
import Derived.Shelf.Strconv.Itoa1
import Derived.Shelf.LaysM
import Derived.Shelf.Strconv.Itoa2
import Derived.Shelf.Strconv.Itoa3
import Derived.Shelf.Strconv.Clone
import Derived.Shelf.Strings.Search1
import Derived.Shelf.Strings.Search2
import Derived.Shelf.Strings.Search3
import Derived.Shelf.Strings.Count
import Derived.Shelf.Strings.Shaped
import Derived.Shelf.Strings.Prefix
import Derived.Shelf.Strings.Split
import Derived.Shelf.Strings.SplitShaped
import Derived.Shelf.Bits.Mul64
import Derived.Shelf.Unicode.DecodeSlow
import Derived.Ground.SlgnProg
import Derived.Shelf.SlicesE.Clone
import Derived.Test.YtheampfoedhipaaGreatDoorProg
namespace Go.Proofs
open Go.Shelf
def Tryz.lays170_ren : Go.Shelf.Ren := ⟨fun | 170 => 255 | n => n, fun | 70 => 349 | 3 => 3 | 0 => 0 | 72 => 351 | 37 => 67 | 5 => 5 | n => n, fun | n => n⟩
theorem Tryz.lays170 : Go.Proofs.Lays.n170 Tryz.prog Tryz.lays170_ren := {
  mixed := by kernel_rfl
  f170 := Tryz.func255.trans (congrArg some (by kernel_rfl))
  t0 := Tryz.underlying0
  a0 := Tryz.isAgg0
  z0 := Tryz.sizeOf0
  v0 := Tryz.zeroValue0
  t3 := Tryz.underlying3
  a3 := Tryz.isAgg3
  z3 := Tryz.sizeOf3
  v3 := Tryz.zeroValue3
  t37 := Tryz.underlying67
  a37 := Tryz.isAgg67
  z37 := Tryz.sizeOf67
  v37 := Tryz.zeroValue67
  t70 := Tryz.underlying349
  a70 := Tryz.isAgg349
  z70 := Tryz.sizeOf349
  v70 := Tryz.zeroValue349
  t72 := Tryz.underlying351
  a72 := Tryz.isAgg351
  z72 := Tryz.sizeOf351
  v72 := Tryz.zeroValue351 }
open Go.RowKit in
/-- (*strings.Builder).Len: "Len returns the number of accumulated bytes; b.Len() == len(b.String()).": the world is as it was. (LAID: no walk: one application.) -/
theorem Tryz.Builder_Len (B b : Nat) (bs : List Value) (w : World) (h : Lib.IsBuilder 351 5 B b bs w) :
    Calls Tryz.prog 255 #[.pointer (some ⟨b, 0, none⟩)] w fun e w' => e = .returned (.int .i64 bs.length) ∧ w' = w := Any.Builder_Len Tryz.lays170 B b bs w h
def Tryz.lays169_ren : Go.Shelf.Ren := ⟨fun | 169 => 256 | n => n, fun | 70 => 349 | 9 => 9 | 0 => 0 | 72 => 351 | 37 => 67 | 127 => 357 | 3 => 3 | 5 => 5 | n => n, fun | n => n⟩
theorem Tryz.lays169 : Go.Proofs.Lays.n169 Tryz.prog Tryz.lays169_ren := {
  mixed := by kernel_rfl
  f169 := Tryz.func256.trans (congrArg some (by kernel_rfl))
  t0 := Tryz.underlying0
  a0 := Tryz.isAgg0
  z0 := Tryz.sizeOf0
  v0 := Tryz.zeroValue0
  t3 := Tryz.underlying3
  a3 := Tryz.isAgg3
  z3 := Tryz.sizeOf3
  v3 := Tryz.zeroValue3
  t9 := Tryz.underlying9
  a9 := Tryz.isAgg9
  z9 := Tryz.sizeOf9
  v9 := Tryz.zeroValue9
  t37 := Tryz.underlying67
  a37 := Tryz.isAgg67
  z37 := Tryz.sizeOf67
  v37 := Tryz.zeroValue67
  t70 := Tryz.underlying349
  a70 := Tryz.isAgg349
  z70 := Tryz.sizeOf349
  v70 := Tryz.zeroValue349
  t72 := Tryz.underlying351
  a72 := Tryz.isAgg351
  z72 := Tryz.sizeOf351
  v72 := Tryz.zeroValue351
  t127 := Tryz.underlying357
  a127 := Tryz.isAgg357
  z127 := Tryz.sizeOf357
  v127 := Tryz.zeroValue357 }
theorem Tryz.Builder_Extra_169 : Builder.Extra Tryz.prog Tryz.lays169_ren := {
  sizeBuilder := by kernel_rfl
  liesBuilder := by kernel_rfl
  t5 := Tryz.underlying5
  a5 := Tryz.isAgg5
  z5 := Tryz.sizeOf5
  v5 := Tryz.zeroValue5
  infoByte := by kernel_rfl
  cellsByte := by kernel_rfl
  sizeByte := by kernel_rfl
  neB5 := by decide }
open Go.RowKit in
/-- (*strings.Builder).String: "String returns the accumulated string.": OF A BUILDER THAT HOLDS AT LEAST ONE BYTE. ✋ THE MODEL FREEZES THOSE BYTES IN THE BUFFER (unsafe.String): a later write INTO them ends the model's run without an answer; a later append BEHIND them goes on. The statement's order of evaluation is drawn: one draw. (LAID: no walk: one application.) -/
theorem Tryz.Builder_String (B b : Nat) (l : List UInt8) (w : World) (h : Lib.IsBuilder 351 5 B b (Lib.byteCells l) w) (h0 : l ≠ []) :
    Calls Tryz.prog 256 #[.pointer (some ⟨b, 0, none⟩)] w fun e w' => e = .returned (.string ⟨l.toArray⟩) ∧ Below B w w' := Any.Builder_String Tryz.lays169 Tryz.Builder_Extra_169 B b l w h h0
open Go.RowKit in
/-- (*strings.Builder).String OF A BUILDER THAT HOLDS NO BYTE: the empty string. (Its buffer is nil, or a row of which it has taken nothing yet; where that row has NO capacity the model lays one new block for unsafe.SliceData's 'some address'.) One draw. (LAID: no walk: one application.) -/
theorem Tryz.Builder_String_empty (B b : Nat) (w : World) (h : Lib.IsBuilder 351 5 B b [] w) (hBw : B ≤ w.heap.size) :
    Calls Tryz.prog 256 #[.pointer (some ⟨b, 0, none⟩)] w fun e w' => e = .returned (.string ⟨#[]⟩) ∧ Below B w w' := Any.Builder_String_empty Tryz.lays169 Tryz.Builder_Extra_169 B b w h hBw
open Go.RowKit in
/-- (*strings.Builder).String: "String returns the accumulated string.": WHATEVER THE BUILDER HOLDS. (LAID: no walk: one application.) -/
theorem Tryz.Builder_String_any (B b : Nat) (l : List UInt8) (w : World) (h : Lib.IsBuilder 351 5 B b (Lib.byteCells l) w) (hBw : B ≤ w.heap.size) :
    Calls Tryz.prog 256 #[.pointer (some ⟨b, 0, none⟩)] w fun e w' => e = .returned (.string ⟨l.toArray⟩) ∧ Below B w w' := Any.Builder_String_any Tryz.lays169 Tryz.Builder_Extra_169 B b l w h hBw
def Tryz.lays241_ren : Go.Shelf.Ren := ⟨fun | 241 => 278 | 277 => 291 | n => n, fun | 70 => 349 | 3 => 3 | 0 => 0 | 72 => 351 | 37 => 67 | 5 => 5 | n => n, fun | n => n⟩
theorem Tryz.lays241 : Go.Proofs.Lays.n241 Tryz.prog Tryz.lays241_ren := {
  mixed := by kernel_rfl
  f241 := Tryz.func278.trans (congrArg some (by kernel_rfl))
  f277 := Tryz.func291.trans (congrArg some (by kernel_rfl))
  t0 := Tryz.underlying0
  a0 := Tryz.isAgg0
  z0 := Tryz.sizeOf0
  v0 := Tryz.zeroValue0
  t3 := Tryz.underlying3
  a3 := Tryz.isAgg3
  z3 := Tryz.sizeOf3
  v3 := Tryz.zeroValue3
  t37 := Tryz.underlying67
  a37 := Tryz.isAgg67
  z37 := Tryz.sizeOf67
  v37 := Tryz.zeroValue67
  t70 := Tryz.underlying349
  a70 := Tryz.isAgg349
  z70 := Tryz.sizeOf349
  v70 := Tryz.zeroValue349
  t72 := Tryz.underlying351
  a72 := Tryz.isAgg351
  z72 := Tryz.sizeOf351
  v72 := Tryz.zeroValue351 }
theorem Tryz.Builder_Extra_241 : Builder.Extra Tryz.prog Tryz.lays241_ren := {
  sizeBuilder := by kernel_rfl
  liesBuilder := by kernel_rfl
  t5 := Tryz.underlying5
  a5 := Tryz.isAgg5
  z5 := Tryz.sizeOf5
  v5 := Tryz.zeroValue5
  infoByte := by kernel_rfl
  cellsByte := by kernel_rfl
  sizeByte := by kernel_rfl
  neB5 := by decide }
open Go.RowKit in
/-- (*strings.Builder).grow (no doc but "grow copies the buffer to a new, larger buffer so that there are at least n bytes of capacity beyond len(b.buf)."): AT A BUILDER WITHOUT A BUFFER: a new row of whatever bytes for its buffer, none of them its own yet. Three draws. (LAID: no walk: one application.) -/
theorem Tryz.Builder_grow_fresh (B b n : Nat) (w : World) (hB : B ≤ b) (hbk : w.heap[b]? = some (.cells #[.pointer (some ⟨b, 0, none⟩), .slice none 0 0] 351 (0, 0))) (hBw : B ≤ w.heap.size) (hn : n ≤ 281474976710656) :
    Calls Tryz.prog 278 #[.pointer (some ⟨b, 0, none⟩), .int .i64 n] w fun e w' => e = .returned (.tuple #[]) ∧ (Lib.BuilderAt 351 5 B b (.pointer (some ⟨b, 0, none⟩)) [] w' ∧ Below B w w') := Any.Builder_grow_fresh Tryz.lays241 Tryz.Builder_Extra_241 B b n w hB hbk hBw hn
def Tryz.lays165_ren : Go.Shelf.Ren := ⟨fun | 165 => 253 | 240 => 277 | 241 => 278 | 276 => 290 | 277 => 291 | n => n, fun | 70 => 349 | 3 => 3 | 0 => 0 | 4 => 4 | 9 => 9 | 20 => 20 | 72 => 351 | 37 => 67 | 164 => 383 | 5 => 5 | n => n, fun | n => n⟩
theorem Tryz.lays165 : Go.Proofs.Lays.n165 Tryz.prog Tryz.lays165_ren := {
  mixed := by kernel_rfl
  f165 := Tryz.func253.trans (congrArg some (by kernel_rfl))
  f240 := Tryz.func277.trans (congrArg some (by kernel_rfl))
  f241 := Tryz.func278.trans (congrArg some (by kernel_rfl))
  f276 := Tryz.func290.trans (congrArg some (by kernel_rfl))
  f277 := Tryz.func291.trans (congrArg some (by kernel_rfl))
  t0 := Tryz.underlying0
  a0 := Tryz.isAgg0
  z0 := Tryz.sizeOf0
  v0 := Tryz.zeroValue0
  t3 := Tryz.underlying3
  a3 := Tryz.isAgg3
  z3 := Tryz.sizeOf3
  v3 := Tryz.zeroValue3
  t4 := Tryz.underlying4
  a4 := Tryz.isAgg4
  z4 := Tryz.sizeOf4
  v4 := Tryz.zeroValue4
  t9 := Tryz.underlying9
  a9 := Tryz.isAgg9
  z9 := Tryz.sizeOf9
  v9 := Tryz.zeroValue9
  t20 := Tryz.underlying20
  a20 := Tryz.isAgg20
  z20 := Tryz.sizeOf20
  v20 := Tryz.zeroValue20
  t37 := Tryz.underlying67
  a37 := Tryz.isAgg67
  z37 := Tryz.sizeOf67
  v37 := Tryz.zeroValue67
  t70 := Tryz.underlying349
  a70 := Tryz.isAgg349
  z70 := Tryz.sizeOf349
  v70 := Tryz.zeroValue349
  t72 := Tryz.underlying351
  a72 := Tryz.isAgg351
  z72 := Tryz.sizeOf351
  v72 := Tryz.zeroValue351
  t164 := Tryz.underlying383
  a164 := Tryz.isAgg383
  z164 := Tryz.sizeOf383
  v164 := Tryz.zeroValue383 }
theorem Tryz.Builder_Extra_165 : Builder.Extra Tryz.prog Tryz.lays165_ren := {
  sizeBuilder := by kernel_rfl
  liesBuilder := by kernel_rfl
  t5 := Tryz.underlying5
  a5 := Tryz.isAgg5
  z5 := Tryz.sizeOf5
  v5 := Tryz.zeroValue5
  infoByte := by kernel_rfl
  cellsByte := by kernel_rfl
  sizeByte := by kernel_rfl
  neB5 := by decide }
open Go.RowKit in
/-- (*strings.Builder).Grow AT A BUILDER THAT HAS NOT BEEN WRITTEN ('var b strings.Builder; b.Grow(n)'): "Grow grows b's capacity, if necessary, to guarantee space for another n bytes.": it holds no byte behind it as before it. (LAID: no walk: one application.) -/
theorem Tryz.Builder_Grow_fresh (B b n : Nat) (w : World) (hB : B ≤ b) (hbk : w.heap[b]? = some (.cells #[.pointer none, .slice none 0 0] 351 (0, 0))) (hBw : B ≤ w.heap.size) (hn : n ≤ 281474976710656) :
    Calls Tryz.prog 253 #[.pointer (some ⟨b, 0, none⟩), .int .i64 n] w fun e w' => e = .returned (.tuple #[]) ∧ (Lib.BuilderAt 351 5 B b (.pointer (some ⟨b, 0, none⟩)) [] w' ∧ Below B w w') := Any.Builder_Grow_fresh Tryz.lays165 Tryz.Builder_Extra_165 B b n w hB hbk hBw hn
def Tryz.lays156_ren : Go.Shelf.Ren := ⟨fun | 156 => 235 | 165 => 253 | 166 => 254 | 169 => 256 | 240 => 277 | 241 => 278 | 276 => 290 | 277 => 291 | n => n, fun | 31 => 124 | 9 => 9 | 3 => 3 | 4 => 4 | 0 => 0 | 20 => 20 | 72 => 351 | 76 => 354 | 70 => 349 | 37 => 67 | 75 => 353 | 127 => 357 | 164 => 383 | 5 => 5 | 80 => 117 | n => n, fun | n => n⟩
theorem Tryz.lays156 : Go.Proofs.Lays.n156 Tryz.prog Tryz.lays156_ren := {
  mixed := by kernel_rfl
  f156 := Tryz.func235.trans (congrArg some (by kernel_rfl))
  f165 := Tryz.func253.trans (congrArg some (by kernel_rfl))
  f166 := Tryz.func254.trans (congrArg some (by kernel_rfl))
  f169 := Tryz.func256.trans (congrArg some (by kernel_rfl))
  f240 := Tryz.func277.trans (congrArg some (by kernel_rfl))
  f241 := Tryz.func278.trans (congrArg some (by kernel_rfl))
  f276 := Tryz.func290.trans (congrArg some (by kernel_rfl))
  f277 := Tryz.func291.trans (congrArg some (by kernel_rfl))
  t0 := Tryz.underlying0
  a0 := Tryz.isAgg0
  z0 := Tryz.sizeOf0
  v0 := Tryz.zeroValue0
  t3 := Tryz.underlying3
  a3 := Tryz.isAgg3
  z3 := Tryz.sizeOf3
  v3 := Tryz.zeroValue3
  t4 := Tryz.underlying4
  a4 := Tryz.isAgg4
  z4 := Tryz.sizeOf4
  v4 := Tryz.zeroValue4
  t9 := Tryz.underlying9
  a9 := Tryz.isAgg9
  z9 := Tryz.sizeOf9
  v9 := Tryz.zeroValue9
  t20 := Tryz.underlying20
  a20 := Tryz.isAgg20
  z20 := Tryz.sizeOf20
  v20 := Tryz.zeroValue20
  t31 := Tryz.underlying124
  a31 := Tryz.isAgg124
  z31 := Tryz.sizeOf124
  v31 := Tryz.zeroValue124
  t37 := Tryz.underlying67
  a37 := Tryz.isAgg67
  z37 := Tryz.sizeOf67
  v37 := Tryz.zeroValue67
  t70 := Tryz.underlying349
  a70 := Tryz.isAgg349
  z70 := Tryz.sizeOf349
  v70 := Tryz.zeroValue349
  t72 := Tryz.underlying351
  a72 := Tryz.isAgg351
  z72 := Tryz.sizeOf351
  v72 := Tryz.zeroValue351
  t75 := Tryz.underlying353
  a75 := Tryz.isAgg353
  z75 := Tryz.sizeOf353
  v75 := Tryz.zeroValue353
  t76 := Tryz.underlying354
  a76 := Tryz.isAgg354
  z76 := Tryz.sizeOf354
  v76 := Tryz.zeroValue354
  t127 := Tryz.underlying357
  a127 := Tryz.isAgg357
  z127 := Tryz.sizeOf357
  v127 := Tryz.zeroValue357
  t164 := Tryz.underlying383
  a164 := Tryz.isAgg383
  z164 := Tryz.sizeOf383
  v164 := Tryz.zeroValue383 }
theorem Tryz.Builder_Extra_156 : Builder.Extra Tryz.prog Tryz.lays156_ren := {
  sizeBuilder := by kernel_rfl
  liesBuilder := by kernel_rfl
  t5 := Tryz.underlying5
  a5 := Tryz.isAgg5
  z5 := Tryz.sizeOf5
  v5 := Tryz.zeroValue5
  infoByte := by kernel_rfl
  cellsByte := by kernel_rfl
  sizeByte := by kernel_rfl
  neB5 := by decide }
open Go.RowKit in
/-- No element: the empty string; the world is as it was. (Whatever the slice's address and capacity: a nil slice too.) (LAID: no walk: one application.) -/
theorem Tryz.strings_Join_none (a : Option Addr) (c : Nat) (sep : ByteArray) (w : World) :
    Calls Tryz.prog 235 #[.slice a 0 c, .string sep] w fun e w' => e = .returned (.string ⟨#[]⟩) ∧ w' = w := Any.strings_Join_none Tryz.lays156 Tryz.Builder_Extra_156 a c sep w
open Go.RowKit in
/-- strings.Join: "Join concatenates the elements of its first argument to create a single string. The separator string sep is placed between elements in the resulting string.": HOWEVER MANY ELEMENTS. Below the heap's end the world is as it was. (LAID: no walk: one application.) -/
theorem Tryz.strings_Join (bk o c : Nat) (xs : List ByteArray) (sep : ByteArray) (w : World) (hcells : ∀ (j : Nat) x, xs[j]? = some x → w.cell? ⟨bk, o + j, none⟩ = some (.string x)) (hbk : bk < w.heap.size) (hN : xs.length ≤ 140737488355328) (hcap : xs.length ≤ c) (hlen : (Lib.join (xs.map (·.data.toList)) sep.data.toList).length ≤ 140737488355328) :
    Calls Tryz.prog 235 #[.slice (some ⟨bk, o, none⟩) xs.length c, .string sep] w fun e w' => e = .returned (.string ⟨(Lib.join (xs.map (·.data.toList)) sep.data.toList).toArray⟩) ∧ Below w.heap.size w w' := Any.strings_Join Tryz.lays156 Tryz.Builder_Extra_156 bk o c xs sep w hcells hbk hN hcap hlen
def Tryz.lays128_ren : Go.Shelf.Ren := ⟨fun | 128 => 222 | n => n, fun | 51 => 327 | 3 => 3 | 4 => 4 | 46 => 286 | 5 => 5 | 9 => 9 | n => n, fun | n => n⟩
theorem Tryz.lays128 : Go.Proofs.Lays.n128 Tryz.prog Tryz.lays128_ren := {
  mixed := by kernel_rfl
  f128 := Tryz.func222.trans (congrArg some (by kernel_rfl))
  t3 := Tryz.underlying3
  a3 := Tryz.isAgg3
  z3 := Tryz.sizeOf3
  v3 := Tryz.zeroValue3
  t4 := Tryz.underlying4
  a4 := Tryz.isAgg4
  z4 := Tryz.sizeOf4
  v4 := Tryz.zeroValue4
  t5 := Tryz.underlying5
  a5 := Tryz.isAgg5
  z5 := Tryz.sizeOf5
  v5 := Tryz.zeroValue5
  t9 := Tryz.underlying9
  a9 := Tryz.isAgg9
  z9 := Tryz.sizeOf9
  v9 := Tryz.zeroValue9
  t46 := Tryz.underlying286
  a46 := Tryz.isAgg286
  z46 := Tryz.sizeOf286
  v46 := Tryz.zeroValue286
  t51 := Tryz.underlying327
  a51 := Tryz.isAgg327
  z51 := Tryz.sizeOf327
  v51 := Tryz.zeroValue327 }
/-- bits.Len32: "Len32 returns the minimum number of bits required to represent x; the result is 0 for x == 0.": IT RETURNS 'Lib.bitLen x'; the world is as it was. ('h0', 'h1': x is a uint32.) (LAID: no walk: one application.) -/
theorem Tryz.bits_Len32 (x : Int) (w : World) (h0 : 0 ≤ x) (h1 : x ≤ 4294967295) :
    Calls Tryz.prog 222 #[.int .u32 x] w fun e w' => e = .returned (.int .i64 (Lib.bitLen x.toNat)) ∧ w' = w := Any.bits_Len32 Tryz.lays128 x w h0 h1
def Tryz.lays125_ren : Go.Shelf.Ren := ⟨fun | 125 => 178 | 128 => 222 | 129 => 223 | n => n, fun | 46 => 286 | 3 => 3 | 51 => 327 | 53 => 329 | 4 => 4 | 5 => 5 | 9 => 9 | n => n, fun | n => n⟩
theorem Tryz.lays125 : Go.Proofs.Lays.n125 Tryz.prog Tryz.lays125_ren := {
  mixed := by kernel_rfl
  f125 := Tryz.func178.trans (congrArg some (by kernel_rfl))
  f128 := Tryz.func222.trans (congrArg some (by kernel_rfl))
  f129 := Tryz.func223.trans (congrArg some (by kernel_rfl))
  t3 := Tryz.underlying3
  a3 := Tryz.isAgg3
  z3 := Tryz.sizeOf3
  v3 := Tryz.zeroValue3
  t4 := Tryz.underlying4
  a4 := Tryz.isAgg4
  z4 := Tryz.sizeOf4
  v4 := Tryz.zeroValue4
  t5 := Tryz.underlying5
  a5 := Tryz.isAgg5
  z5 := Tryz.sizeOf5
  v5 := Tryz.zeroValue5
  t9 := Tryz.underlying9
  a9 := Tryz.isAgg9
  z9 := Tryz.sizeOf9
  v9 := Tryz.zeroValue9
  t46 := Tryz.underlying286
  a46 := Tryz.isAgg286
  z46 := Tryz.sizeOf286
  v46 := Tryz.zeroValue286
  t51 := Tryz.underlying327
  a51 := Tryz.isAgg327
  z51 := Tryz.sizeOf327
  v51 := Tryz.zeroValue327
  t53 := Tryz.underlying329
  a53 := Tryz.isAgg329
  z53 := Tryz.sizeOf329
  v53 := Tryz.zeroValue329 }
/-- bits.Len: "Len returns the minimum number of bits required to represent x; the result is 0 for x == 0.": IT RETURNS 'Lib.bitLen x'; the world is as it was. (A uint has 64 bits in the model.) ITS CALLEE bits.Len64 IS MET BY ITS OWN CONTRACT OFF THE SHELF (lay that first). (LAID: no walk: one application.) -/
theorem Tryz.bits_Len (x : Int) (w : World) (h0 : 0 ≤ x) (h1 : x ≤ 18446744073709551615) :
    Calls Tryz.prog 178 #[.int .u64 x] w fun e w' => e = .returned (.int .i64 (Lib.bitLen x.toNat)) ∧ w' = w := Any.bits_Len Tryz.lays125 x w h0 h1
def Tryz.lays129_ren : Go.Shelf.Ren := ⟨fun | 129 => 223 | n => n, fun | 53 => 329 | 3 => 3 | 4 => 4 | 46 => 286 | 5 => 5 | 9 => 9 | n => n, fun | n => n⟩
theorem Tryz.lays129 : Go.Proofs.Lays.n129 Tryz.prog Tryz.lays129_ren := {
  mixed := by kernel_rfl
  f129 := Tryz.func223.trans (congrArg some (by kernel_rfl))
  t3 := Tryz.underlying3
  a3 := Tryz.isAgg3
  z3 := Tryz.sizeOf3
  v3 := Tryz.zeroValue3
  t4 := Tryz.underlying4
  a4 := Tryz.isAgg4
  z4 := Tryz.sizeOf4
  v4 := Tryz.zeroValue4
  t5 := Tryz.underlying5
  a5 := Tryz.isAgg5
  z5 := Tryz.sizeOf5
  v5 := Tryz.zeroValue5
  t9 := Tryz.underlying9
  a9 := Tryz.isAgg9
  z9 := Tryz.sizeOf9
  v9 := Tryz.zeroValue9
  t46 := Tryz.underlying286
  a46 := Tryz.isAgg286
  z46 := Tryz.sizeOf286
  v46 := Tryz.zeroValue286
  t53 := Tryz.underlying329
  a53 := Tryz.isAgg329
  z53 := Tryz.sizeOf329
  v53 := Tryz.zeroValue329 }
/-- bits.Len64: "Len64 returns the minimum number of bits required to represent x; the result is 0 for x == 0.": IT RETURNS 'Lib.bitLen x'; the world is as it was. ('h0', 'h1': x is a uint64.) (LAID: no walk: one application.) -/
theorem Tryz.bits_Len64 (x : Int) (w : World) (h0 : 0 ≤ x) (h1 : x ≤ 18446744073709551615) :
    Calls Tryz.prog 223 #[.int .u64 x] w fun e w' => e = .returned (.int .i64 (Lib.bitLen x.toNat)) ∧ w' = w := Any.bits_Len64 Tryz.lays129 x w h0 h1
def Tryz.lays317_ren : Go.Shelf.Ren := ⟨fun | 317 => 286 | n => n, fun | 3 => 3 | 46 => 286 | n => n, fun | n => n⟩
theorem Tryz.lays317 : Go.Proofs.Lays.n317 Tryz.prog Tryz.lays317_ren := {
  mixed := by kernel_rfl
  f317 := Tryz.func286.trans (congrArg some (by kernel_rfl))
  t3 := Tryz.underlying3
  a3 := Tryz.isAgg3
  z3 := Tryz.sizeOf3
  v3 := Tryz.zeroValue3
  t46 := Tryz.underlying286
  a46 := Tryz.isAgg286
  z46 := Tryz.sizeOf286
  v46 := Tryz.zeroValue286 }
open Go.Lib in
/-- internal/strconv.log10Pow2: "log10Pow2(x) returns ⌊log₁₀ 2**x⌋ = ⌊x * log₁₀ 2⌋.": '(x * 78913) >> 18', at an x up to 64 (a length in bits). The world is as it was. (LAID: no walk: one application.) -/
theorem Tryz.internal_strconv_log10Pow2 (x : Nat) (h : x ≤ 64) (w : World) :
    Calls Tryz.prog 286 #[.int .i64 x] w fun e w' => e = .returned (.int .i64 (Lib.l10 x)) ∧ w' = w := Any.internal_strconv_log10Pow2 Tryz.lays317 x h w
def Tryz.lays318_ren : Go.Shelf.Ren := ⟨fun | 318 => 287 | n => n, fun | 3 => 3 | 4 => 4 | n => n, fun | n => n⟩
theorem Tryz.lays318 : Go.Proofs.Lays.n318 Tryz.prog Tryz.lays318_ren := {
  mixed := by kernel_rfl
  f318 := Tryz.func287.trans (congrArg some (by kernel_rfl))
  t3 := Tryz.underlying3
  a3 := Tryz.isAgg3
  z3 := Tryz.sizeOf3
  v3 := Tryz.zeroValue3
  t4 := Tryz.underlying4
  a4 := Tryz.isAgg4
  z4 := Tryz.sizeOf4
  v4 := Tryz.zeroValue4 }
open Go.Lib in
/-- internal/strconv.bool2: "bool2 converts b to an integer: 1 for true, 0 for false." The world is as it was. (LAID: no walk: one application.) -/
theorem Tryz.internal_strconv_bool2_int (b : Bool) (w : World) :
    Calls Tryz.prog 287 #[.bool b] w fun e w' => e = .returned (.int .i64 (if b then 1 else 0)) ∧ w' = w := Any.internal_strconv_bool2_int Tryz.lays318 b w
def Tryz.lays283_ren : Go.Shelf.Ren := ⟨fun | 283 => 271 | n => n, fun | 3 => 3 | 9 => 9 | 4 => 4 | n => n, fun | n => n⟩
theorem Tryz.lays283 : Go.Proofs.Lays.n283 Tryz.prog Tryz.lays283_ren := {
  mixed := by kernel_rfl
  f283 := Tryz.func271.trans (congrArg some (by kernel_rfl))
  t3 := Tryz.underlying3
  a3 := Tryz.isAgg3
  z3 := Tryz.sizeOf3
  v3 := Tryz.zeroValue3
  t4 := Tryz.underlying4
  a4 := Tryz.isAgg4
  z4 := Tryz.sizeOf4
  v4 := Tryz.zeroValue4
  t9 := Tryz.underlying9
  a9 := Tryz.isAgg9
  z9 := Tryz.sizeOf9
  v9 := Tryz.zeroValue9 }
open Go.Lib in
/-- internal/strconv.small: "small returns the string for an i with 0 <= i < nSmalls.": i's decimal numeral. The world is as it was. (LAID: no walk: one application.) -/
theorem Tryz.internal_strconv_small (i : Nat) (h : i < 100) (w : World) :
    Calls Tryz.prog 271 #[.int .i64 i] w fun e w' => e = .returned (.string ⟨(Lib.decDigits i).toArray⟩) ∧ w' = w := Any.internal_strconv_small Tryz.lays283 i h w
def Tryz.laysM284_ren : Go.Shelf.Ren := ⟨fun | 284 => 272 | 129 => 223 | 317 => 286 | 318 => 287 | n => n, fun | 53 => 329 | 3 => 3 | 212 => 381 | 0 => 0 | 4 => 4 | 46 => 286 | 5 => 5 | 9 => 9 | n => n, fun | 17 => 1 | n => n⟩
theorem Tryz.laysM284 : Go.Proofs.LaysM.n284 Tryz.prog Tryz.laysM284_ren := {
  mixed := by kernel_rfl
  f129 := Tryz.func223.trans (congrArg some (by kernel_rfl))
  f284 := Tryz.func272.trans (congrArg some (by kernel_rfl))
  f317 := Tryz.func286.trans (congrArg some (by kernel_rfl))
  f318 := Tryz.func287.trans (congrArg some (by kernel_rfl))
  t0 := Tryz.underlying0
  a0 := Tryz.isAgg0
  z0 := Tryz.sizeOf0
  v0 := Tryz.zeroValue0
  t3 := Tryz.underlying3
  a3 := Tryz.isAgg3
  z3 := Tryz.sizeOf3
  v3 := Tryz.zeroValue3
  t4 := Tryz.underlying4
  a4 := Tryz.isAgg4
  z4 := Tryz.sizeOf4
  v4 := Tryz.zeroValue4
  t5 := Tryz.underlying5
  a5 := Tryz.isAgg5
  z5 := Tryz.sizeOf5
  v5 := Tryz.zeroValue5
  t9 := Tryz.underlying9
  a9 := Tryz.isAgg9
  z9 := Tryz.sizeOf9
  v9 := Tryz.zeroValue9
  t46 := Tryz.underlying286
  a46 := Tryz.isAgg286
  z46 := Tryz.sizeOf286
  v46 := Tryz.zeroValue286
  t53 := Tryz.underlying329
  a53 := Tryz.isAgg329
  z53 := Tryz.sizeOf329
  v53 := Tryz.zeroValue329
  t212 := Tryz.underlying381
  a212 := Tryz.isAgg381
  z212 := Tryz.sizeOf381
  v212 := Tryz.zeroValue381
  g17 := by kernel_rfl
  i0 := by kernel_rfl
  i3 := by kernel_rfl
  i4 := by kernel_rfl
  i5 := by kernel_rfl
  i9 := by kernel_rfl
  i46 := by kernel_rfl
  i53 := by kernel_rfl
  i212 := by kernel_rfl
  m17 := by kernel_rfl }
open Go.Lib in
/-- internal/strconv.numDigits, at a d that is not 0: THE NUMBER OF d's DECIMAL DIGITS. The world is as it was. (LAID: no walk: one application.) -/
theorem Tryz.internal_strconv_numDigits (u : Nat) (h1 : 1 ≤ u) (h2 : u < 18446744073709551616) (w : World) (htab : Lib.TabIs Tryz.prog w "internal/strconv.uint64pow10" .u64 Lib.pow10Tab) :
    Calls Tryz.prog 272 #[.int .u64 u] w fun e w' => e = .returned (.int .i64 (Lib.nDigits u)) ∧ w' = w := Any.internal_strconv_numDigits Tryz.laysM284 u h1 h2 w htab
def Tryz.lays285_ren : Go.Shelf.Ren := ⟨fun | 285 => 273 | n => n, fun | 37 => 67 | 53 => 329 | 3 => 3 | 4 => 4 | 51 => 327 | 9 => 9 | 5 => 5 | 0 => 0 | n => n, fun | n => n⟩
theorem Tryz.lays285 : Go.Proofs.Lays.n285 Tryz.prog Tryz.lays285_ren := {
  mixed := by kernel_rfl
  f285 := Tryz.func273.trans (congrArg some (by kernel_rfl))
  t0 := Tryz.underlying0
  a0 := Tryz.isAgg0
  z0 := Tryz.sizeOf0
  v0 := Tryz.zeroValue0
  t3 := Tryz.underlying3
  a3 := Tryz.isAgg3
  z3 := Tryz.sizeOf3
  v3 := Tryz.zeroValue3
  t4 := Tryz.underlying4
  a4 := Tryz.isAgg4
  z4 := Tryz.sizeOf4
  v4 := Tryz.zeroValue4
  t5 := Tryz.underlying5
  a5 := Tryz.isAgg5
  z5 := Tryz.sizeOf5
  v5 := Tryz.zeroValue5
  t9 := Tryz.underlying9
  a9 := Tryz.isAgg9
  z9 := Tryz.sizeOf9
  v9 := Tryz.zeroValue9
  t37 := Tryz.underlying67
  a37 := Tryz.isAgg67
  z37 := Tryz.sizeOf67
  v37 := Tryz.zeroValue67
  t51 := Tryz.underlying327
  a51 := Tryz.isAgg327
  z51 := Tryz.sizeOf327
  v51 := Tryz.zeroValue327
  t53 := Tryz.underlying329
  a53 := Tryz.isAgg329
  z53 := Tryz.sizeOf329
  v53 := Tryz.zeroValue329 }
open Go.RowKit Go.Sort Go.Lib in
/-- internal/strconv.formatBase10: "formatBase10 formats the decimal representation of u into a. The caller is responsible for ensuring that a is big enough to hold u. If a is too big, leading zeros will be filled in as needed.": THE ROW HOLDS u's DIGITS ('FmtInv .. 0 ..': every place t holds 'dg u (len - 1 - t)'); all else is as it was but for the count of draws. (LAID: no walk: one application.) -/
theorem Tryz.internal_strconv_formatBase10 (blk off cap : Nat) (u : Nat) (d : Array UInt8) (w : World) (hH : Holds (fun (b : UInt8) => Value.int .u8 (b.toNat : Int)) w blk off d) (hu : u < 10 ^ d.size) (hu64 : u < 18446744073709551616) (hsz : d.size < 4611686018427387904) :
    Calls Tryz.prog 273 #[.slice (some ⟨blk, off, none⟩) d.size cap, .int .u64 u] w fun e w' =>
      e = .returned (.tuple #[]) ∧ ∃ (n v' : Nat) (dk : Array UInt8), w' = (putRow (fun (b : UInt8) => Value.int .u8 (b.toNat : Int)) w blk off dk).drewN n ∧ FmtInv d.size u 0 v' dk := Any.internal_strconv_formatBase10 Tryz.lays285 blk off cap u d w hH hu hu64 hsz
def Tryz.laysM246_ren : Go.Shelf.Ren := ⟨fun | 246 => 248 | 283 => 271 | 284 => 272 | 285 => 273 | 286 => 274 | 129 => 223 | 317 => 286 | 318 => 287 | 319 => 288 | 320 => 289 | 337 => 298 | 338 => 299 | n => n, fun | 2 => 2 | 3 => 3 | 9 => 9 | 4 => 4 | 171 => 367 | 0 => 0 | 53 => 329 | 37 => 67 | 5 => 5 | 173 => 369 | 212 => 381 | 51 => 327 | 20 => 20 | 213 => 382 | 46 => 286 | 232 => 392 | 233 => 393 | n => n, fun | 17 => 1 | 18 => 5 | 19 => 6 | n => n⟩
theorem Tryz.laysM246 : Go.Proofs.LaysM.n246 Tryz.prog Tryz.laysM246_ren := {
  mixed := by kernel_rfl
  f129 := Tryz.func223.trans (congrArg some (by kernel_rfl))
  f246 := Tryz.func248.trans (congrArg some (by kernel_rfl))
  f283 := Tryz.func271.trans (congrArg some (by kernel_rfl))
  f284 := Tryz.func272.trans (congrArg some (by kernel_rfl))
  f285 := Tryz.func273.trans (congrArg some (by kernel_rfl))
  f286 := Tryz.func274.trans (congrArg some (by kernel_rfl))
  f317 := Tryz.func286.trans (congrArg some (by kernel_rfl))
  f318 := Tryz.func287.trans (congrArg some (by kernel_rfl))
  f319 := Tryz.func288.trans (congrArg some (by kernel_rfl))
  f320 := Tryz.func289.trans (congrArg some (by kernel_rfl))
  f337 := Tryz.func298.trans (congrArg some (by kernel_rfl))
  f338 := Tryz.func299.trans (congrArg some (by kernel_rfl))
  t0 := Tryz.underlying0
  a0 := Tryz.isAgg0
  z0 := Tryz.sizeOf0
  v0 := Tryz.zeroValue0
  t2 := Tryz.underlying2
  a2 := Tryz.isAgg2
  z2 := Tryz.sizeOf2
  v2 := Tryz.zeroValue2
  t3 := Tryz.underlying3
  a3 := Tryz.isAgg3
  z3 := Tryz.sizeOf3
  v3 := Tryz.zeroValue3
  t4 := Tryz.underlying4
  a4 := Tryz.isAgg4
  z4 := Tryz.sizeOf4
  v4 := Tryz.zeroValue4
  t5 := Tryz.underlying5
  a5 := Tryz.isAgg5
  z5 := Tryz.sizeOf5
  v5 := Tryz.zeroValue5
  t9 := Tryz.underlying9
  a9 := Tryz.isAgg9
  z9 := Tryz.sizeOf9
  v9 := Tryz.zeroValue9
  t20 := Tryz.underlying20
  a20 := Tryz.isAgg20
  z20 := Tryz.sizeOf20
  v20 := Tryz.zeroValue20
  t37 := Tryz.underlying67
  a37 := Tryz.isAgg67
  z37 := Tryz.sizeOf67
  v37 := Tryz.zeroValue67
  t46 := Tryz.underlying286
  a46 := Tryz.isAgg286
  z46 := Tryz.sizeOf286
  v46 := Tryz.zeroValue286
  t51 := Tryz.underlying327
  a51 := Tryz.isAgg327
  z51 := Tryz.sizeOf327
  v51 := Tryz.zeroValue327
  t53 := Tryz.underlying329
  a53 := Tryz.isAgg329
  z53 := Tryz.sizeOf329
  v53 := Tryz.zeroValue329
  t171 := Tryz.underlying367
  a171 := Tryz.isAgg367
  z171 := Tryz.sizeOf367
  v171 := Tryz.zeroValue367
  t173 := Tryz.underlying369
  a173 := Tryz.isAgg369
  z173 := Tryz.sizeOf369
  v173 := Tryz.zeroValue369
  t212 := Tryz.underlying381
  a212 := Tryz.isAgg381
  z212 := Tryz.sizeOf381
  v212 := Tryz.zeroValue381
  t213 := Tryz.underlying382
  a213 := Tryz.isAgg382
  z213 := Tryz.sizeOf382
  t232 := Tryz.underlying392
  a232 := Tryz.isAgg392
  z232 := Tryz.sizeOf392
  v232 := Tryz.zeroValue392
  t233 := Tryz.underlying393
  a233 := Tryz.isAgg393
  z233 := Tryz.sizeOf393
  v233 := Tryz.zeroValue393
  g17 := by kernel_rfl
  g18 := by kernel_rfl
  g19 := by kernel_rfl
  i0 := by kernel_rfl
  i2 := by kernel_rfl
  i3 := by kernel_rfl
  i4 := by kernel_rfl
  i5 := by kernel_rfl
  i9 := by kernel_rfl
  i20 := by kernel_rfl
  i37 := by kernel_rfl
  i46 := by kernel_rfl
  i51 := by kernel_rfl
  i53 := by kernel_rfl
  i171 := by kernel_rfl
  i173 := by kernel_rfl
  i212 := by kernel_rfl
  i232 := by kernel_rfl
  i233 := by kernel_rfl
  m17 := by kernel_rfl
  m18 := by kernel_rfl
  m19 := by kernel_rfl }
open Go.RowKit Go.Sort Go.Lib in
/-- internal/strconv.FormatInt: "FormatInt returns the string representation of i in the given base": AT BASE 10: i's decimal numeral, for every int64. The world behind the call: the world before it, new blocks behind the heap, draws. (LAID: no walk: one application.) -/
theorem Tryz.internal_strconv_FormatInt_10 (n : Int) (h0 : -9223372036854775808 ≤ n) (h1 : n ≤ 9223372036854775807) (w : World) (htab : Lib.TabIs Tryz.prog w "internal/strconv.uint64pow10" .u64 Lib.pow10Tab) :
    Calls Tryz.prog 248 #[.int .i64 n, .int .i64 10] w fun e w' => e = .returned (.string ⟨(Lib.itoa n).toArray⟩) ∧ ∃ k os, w' = grow (w.drewN k) os := Any.internal_strconv_FormatInt_10 Tryz.laysM246 n h0 h1 w htab
def Tryz.lays246_ren : Go.Shelf.Ren := ⟨fun | 246 => 248 | 283 => 271 | 284 => 272 | 285 => 273 | 286 => 274 | 129 => 223 | 317 => 286 | 318 => 287 | 319 => 288 | 320 => 289 | 337 => 298 | 338 => 299 | n => n, fun | 2 => 2 | 3 => 3 | 9 => 9 | 4 => 4 | 171 => 367 | 0 => 0 | 53 => 329 | 37 => 67 | 5 => 5 | 173 => 369 | 212 => 381 | 51 => 327 | 20 => 20 | 213 => 382 | 46 => 286 | 232 => 392 | 233 => 393 | n => n, fun | 17 => 1 | 18 => 5 | 19 => 6 | n => n⟩
theorem Tryz.lays246 : Go.Proofs.Lays.n246 Tryz.prog Tryz.lays246_ren := {
  mixed := by kernel_rfl
  f129 := Tryz.func223.trans (congrArg some (by kernel_rfl))
  f246 := Tryz.func248.trans (congrArg some (by kernel_rfl))
  f283 := Tryz.func271.trans (congrArg some (by kernel_rfl))
  f284 := Tryz.func272.trans (congrArg some (by kernel_rfl))
  f285 := Tryz.func273.trans (congrArg some (by kernel_rfl))
  f286 := Tryz.func274.trans (congrArg some (by kernel_rfl))
  f317 := Tryz.func286.trans (congrArg some (by kernel_rfl))
  f318 := Tryz.func287.trans (congrArg some (by kernel_rfl))
  f319 := Tryz.func288.trans (congrArg some (by kernel_rfl))
  f320 := Tryz.func289.trans (congrArg some (by kernel_rfl))
  f337 := Tryz.func298.trans (congrArg some (by kernel_rfl))
  f338 := Tryz.func299.trans (congrArg some (by kernel_rfl))
  t0 := Tryz.underlying0
  a0 := Tryz.isAgg0
  z0 := Tryz.sizeOf0
  v0 := Tryz.zeroValue0
  t2 := Tryz.underlying2
  a2 := Tryz.isAgg2
  z2 := Tryz.sizeOf2
  v2 := Tryz.zeroValue2
  t3 := Tryz.underlying3
  a3 := Tryz.isAgg3
  z3 := Tryz.sizeOf3
  v3 := Tryz.zeroValue3
  t4 := Tryz.underlying4
  a4 := Tryz.isAgg4
  z4 := Tryz.sizeOf4
  v4 := Tryz.zeroValue4
  t5 := Tryz.underlying5
  a5 := Tryz.isAgg5
  z5 := Tryz.sizeOf5
  v5 := Tryz.zeroValue5
  t9 := Tryz.underlying9
  a9 := Tryz.isAgg9
  z9 := Tryz.sizeOf9
  v9 := Tryz.zeroValue9
  t20 := Tryz.underlying20
  a20 := Tryz.isAgg20
  z20 := Tryz.sizeOf20
  v20 := Tryz.zeroValue20
  t37 := Tryz.underlying67
  a37 := Tryz.isAgg67
  z37 := Tryz.sizeOf67
  v37 := Tryz.zeroValue67
  t46 := Tryz.underlying286
  a46 := Tryz.isAgg286
  z46 := Tryz.sizeOf286
  v46 := Tryz.zeroValue286
  t51 := Tryz.underlying327
  a51 := Tryz.isAgg327
  z51 := Tryz.sizeOf327
  v51 := Tryz.zeroValue327
  t53 := Tryz.underlying329
  a53 := Tryz.isAgg329
  z53 := Tryz.sizeOf329
  v53 := Tryz.zeroValue329
  t171 := Tryz.underlying367
  a171 := Tryz.isAgg367
  z171 := Tryz.sizeOf367
  v171 := Tryz.zeroValue367
  t173 := Tryz.underlying369
  a173 := Tryz.isAgg369
  z173 := Tryz.sizeOf369
  v173 := Tryz.zeroValue369
  t212 := Tryz.underlying381
  a212 := Tryz.isAgg381
  z212 := Tryz.sizeOf381
  v212 := Tryz.zeroValue381
  t213 := Tryz.underlying382
  a213 := Tryz.isAgg382
  z213 := Tryz.sizeOf382
  t232 := Tryz.underlying392
  a232 := Tryz.isAgg392
  z232 := Tryz.sizeOf392
  v232 := Tryz.zeroValue392
  t233 := Tryz.underlying393
  a233 := Tryz.isAgg393
  z233 := Tryz.sizeOf393
  v233 := Tryz.zeroValue393
  g17 := by kernel_rfl
  g18 := by kernel_rfl
  g19 := by kernel_rfl }
open Go.RowKit Go.Sort Go.Lib in
/-- THE ROAD WITHOUT THE TABLE: 0 <= i < 100: two constants are read, nothing is laid: no premise on the world, and the world is as it was. (LAID: no walk: one application.) -/
theorem Tryz.internal_strconv_FormatInt_10_small (i : Nat) (hi : i < 100) (w : World) :
    Calls Tryz.prog 248 #[.int .i64 i, .int .i64 10] w fun e w' => e = .returned (.string ⟨(Lib.decDigits i).toArray⟩) ∧ w' = w := Any.internal_strconv_FormatInt_10_small Tryz.lays246 i hi w
def Tryz.laysM243_ren : Go.Shelf.Ren := ⟨fun | 243 => 224 | 246 => 248 | 283 => 271 | 284 => 272 | 285 => 273 | 286 => 274 | 129 => 223 | 317 => 286 | 318 => 287 | 319 => 288 | 320 => 289 | 337 => 298 | 338 => 299 | n => n, fun | 3 => 3 | 9 => 9 | 2 => 2 | 4 => 4 | 171 => 367 | 0 => 0 | 53 => 329 | 37 => 67 | 5 => 5 | 173 => 369 | 212 => 381 | 51 => 327 | 20 => 20 | 213 => 382 | 46 => 286 | 232 => 392 | 233 => 393 | n => n, fun | 17 => 1 | 18 => 5 | 19 => 6 | n => n⟩
theorem Tryz.laysM243 : Go.Proofs.LaysM.n243 Tryz.prog Tryz.laysM243_ren := {
  mixed := by kernel_rfl
  f129 := Tryz.func223.trans (congrArg some (by kernel_rfl))
  f243 := Tryz.func224.trans (congrArg some (by kernel_rfl))
  f246 := Tryz.func248.trans (congrArg some (by kernel_rfl))
  f283 := Tryz.func271.trans (congrArg some (by kernel_rfl))
  f284 := Tryz.func272.trans (congrArg some (by kernel_rfl))
  f285 := Tryz.func273.trans (congrArg some (by kernel_rfl))
  f286 := Tryz.func274.trans (congrArg some (by kernel_rfl))
  f317 := Tryz.func286.trans (congrArg some (by kernel_rfl))
  f318 := Tryz.func287.trans (congrArg some (by kernel_rfl))
  f319 := Tryz.func288.trans (congrArg some (by kernel_rfl))
  f320 := Tryz.func289.trans (congrArg some (by kernel_rfl))
  f337 := Tryz.func298.trans (congrArg some (by kernel_rfl))
  f338 := Tryz.func299.trans (congrArg some (by kernel_rfl))
  t0 := Tryz.underlying0
  a0 := Tryz.isAgg0
  z0 := Tryz.sizeOf0
  v0 := Tryz.zeroValue0
  t2 := Tryz.underlying2
  a2 := Tryz.isAgg2
  z2 := Tryz.sizeOf2
  v2 := Tryz.zeroValue2
  t3 := Tryz.underlying3
  a3 := Tryz.isAgg3
  z3 := Tryz.sizeOf3
  v3 := Tryz.zeroValue3
  t4 := Tryz.underlying4
  a4 := Tryz.isAgg4
  z4 := Tryz.sizeOf4
  v4 := Tryz.zeroValue4
  t5 := Tryz.underlying5
  a5 := Tryz.isAgg5
  z5 := Tryz.sizeOf5
  v5 := Tryz.zeroValue5
  t9 := Tryz.underlying9
  a9 := Tryz.isAgg9
  z9 := Tryz.sizeOf9
  v9 := Tryz.zeroValue9
  t20 := Tryz.underlying20
  a20 := Tryz.isAgg20
  z20 := Tryz.sizeOf20
  v20 := Tryz.zeroValue20
  t37 := Tryz.underlying67
  a37 := Tryz.isAgg67
  z37 := Tryz.sizeOf67
  v37 := Tryz.zeroValue67
  t46 := Tryz.underlying286
  a46 := Tryz.isAgg286
  z46 := Tryz.sizeOf286
  v46 := Tryz.zeroValue286
  t51 := Tryz.underlying327
  a51 := Tryz.isAgg327
  z51 := Tryz.sizeOf327
  v51 := Tryz.zeroValue327
  t53 := Tryz.underlying329
  a53 := Tryz.isAgg329
  z53 := Tryz.sizeOf329
  v53 := Tryz.zeroValue329
  t171 := Tryz.underlying367
  a171 := Tryz.isAgg367
  z171 := Tryz.sizeOf367
  v171 := Tryz.zeroValue367
  t173 := Tryz.underlying369
  a173 := Tryz.isAgg369
  z173 := Tryz.sizeOf369
  v173 := Tryz.zeroValue369
  t212 := Tryz.underlying381
  a212 := Tryz.isAgg381
  z212 := Tryz.sizeOf381
  v212 := Tryz.zeroValue381
  t213 := Tryz.underlying382
  a213 := Tryz.isAgg382
  z213 := Tryz.sizeOf382
  t232 := Tryz.underlying392
  a232 := Tryz.isAgg392
  z232 := Tryz.sizeOf392
  v232 := Tryz.zeroValue392
  t233 := Tryz.underlying393
  a233 := Tryz.isAgg393
  z233 := Tryz.sizeOf393
  v233 := Tryz.zeroValue393
  g17 := by kernel_rfl
  g18 := by kernel_rfl
  g19 := by kernel_rfl
  i0 := by kernel_rfl
  i2 := by kernel_rfl
  i3 := by kernel_rfl
  i4 := by kernel_rfl
  i5 := by kernel_rfl
  i9 := by kernel_rfl
  i20 := by kernel_rfl
  i37 := by kernel_rfl
  i46 := by kernel_rfl
  i51 := by kernel_rfl
  i53 := by kernel_rfl
  i171 := by kernel_rfl
  i173 := by kernel_rfl
  i212 := by kernel_rfl
  i232 := by kernel_rfl
  i233 := by kernel_rfl
  m17 := by kernel_rfl
  m18 := by kernel_rfl
  m19 := by kernel_rfl }
open Go.RowKit Go.Sort Go.Lib in
/-- internal/strconv.Itoa: "Itoa is equivalent to FormatInt(int64(i), 10).": i's decimal numeral, for every int. (LAID: no walk: one application.) -/
theorem Tryz.internal_strconv_Itoa (n : Int) (h0 : -9223372036854775808 ≤ n) (h1 : n ≤ 9223372036854775807) (w : World) (htab : Lib.TabIs Tryz.prog w "internal/strconv.uint64pow10" .u64 Lib.pow10Tab) :
    Calls Tryz.prog 224 #[.int .i64 n] w fun e w' => e = .returned (.string ⟨(Lib.itoa n).toArray⟩) ∧ ∃ k os, w' = grow (w.drewN k) os := Any.internal_strconv_Itoa Tryz.laysM243 n h0 h1 w htab
def Tryz.lays243_ren : Go.Shelf.Ren := ⟨fun | 243 => 224 | 246 => 248 | 283 => 271 | 284 => 272 | 285 => 273 | 286 => 274 | 129 => 223 | 317 => 286 | 318 => 287 | 319 => 288 | 320 => 289 | 337 => 298 | 338 => 299 | n => n, fun | 3 => 3 | 9 => 9 | 2 => 2 | 4 => 4 | 171 => 367 | 0 => 0 | 53 => 329 | 37 => 67 | 5 => 5 | 173 => 369 | 212 => 381 | 51 => 327 | 20 => 20 | 213 => 382 | 46 => 286 | 232 => 392 | 233 => 393 | n => n, fun | 17 => 1 | 18 => 5 | 19 => 6 | n => n⟩
theorem Tryz.lays243 : Go.Proofs.Lays.n243 Tryz.prog Tryz.lays243_ren := {
  mixed := by kernel_rfl
  f129 := Tryz.func223.trans (congrArg some (by kernel_rfl))
  f243 := Tryz.func224.trans (congrArg some (by kernel_rfl))
  f246 := Tryz.func248.trans (congrArg some (by kernel_rfl))
  f283 := Tryz.func271.trans (congrArg some (by kernel_rfl))
  f284 := Tryz.func272.trans (congrArg some (by kernel_rfl))
  f285 := Tryz.func273.trans (congrArg some (by kernel_rfl))
  f286 := Tryz.func274.trans (congrArg some (by kernel_rfl))
  f317 := Tryz.func286.trans (congrArg some (by kernel_rfl))
  f318 := Tryz.func287.trans (congrArg some (by kernel_rfl))
  f319 := Tryz.func288.trans (congrArg some (by kernel_rfl))
  f320 := Tryz.func289.trans (congrArg some (by kernel_rfl))
  f337 := Tryz.func298.trans (congrArg some (by kernel_rfl))
  f338 := Tryz.func299.trans (congrArg some (by kernel_rfl))
  t0 := Tryz.underlying0
  a0 := Tryz.isAgg0
  z0 := Tryz.sizeOf0
  v0 := Tryz.zeroValue0
  t2 := Tryz.underlying2
  a2 := Tryz.isAgg2
  z2 := Tryz.sizeOf2
  v2 := Tryz.zeroValue2
  t3 := Tryz.underlying3
  a3 := Tryz.isAgg3
  z3 := Tryz.sizeOf3
  v3 := Tryz.zeroValue3
  t4 := Tryz.underlying4
  a4 := Tryz.isAgg4
  z4 := Tryz.sizeOf4
  v4 := Tryz.zeroValue4
  t5 := Tryz.underlying5
  a5 := Tryz.isAgg5
  z5 := Tryz.sizeOf5
  v5 := Tryz.zeroValue5
  t9 := Tryz.underlying9
  a9 := Tryz.isAgg9
  z9 := Tryz.sizeOf9
  v9 := Tryz.zeroValue9
  t20 := Tryz.underlying20
  a20 := Tryz.isAgg20
  z20 := Tryz.sizeOf20
  v20 := Tryz.zeroValue20
  t37 := Tryz.underlying67
  a37 := Tryz.isAgg67
  z37 := Tryz.sizeOf67
  v37 := Tryz.zeroValue67
  t46 := Tryz.underlying286
  a46 := Tryz.isAgg286
  z46 := Tryz.sizeOf286
  v46 := Tryz.zeroValue286
  t51 := Tryz.underlying327
  a51 := Tryz.isAgg327
  z51 := Tryz.sizeOf327
  v51 := Tryz.zeroValue327
  t53 := Tryz.underlying329
  a53 := Tryz.isAgg329
  z53 := Tryz.sizeOf329
  v53 := Tryz.zeroValue329
  t171 := Tryz.underlying367
  a171 := Tryz.isAgg367
  z171 := Tryz.sizeOf367
  v171 := Tryz.zeroValue367
  t173 := Tryz.underlying369
  a173 := Tryz.isAgg369
  z173 := Tryz.sizeOf369
  v173 := Tryz.zeroValue369
  t212 := Tryz.underlying381
  a212 := Tryz.isAgg381
  z212 := Tryz.sizeOf381
  v212 := Tryz.zeroValue381
  t213 := Tryz.underlying382
  a213 := Tryz.isAgg382
  z213 := Tryz.sizeOf382
  t232 := Tryz.underlying392
  a232 := Tryz.isAgg392
  z232 := Tryz.sizeOf392
  v232 := Tryz.zeroValue392
  t233 := Tryz.underlying393
  a233 := Tryz.isAgg393
  z233 := Tryz.sizeOf393
  v233 := Tryz.zeroValue393
  g17 := by kernel_rfl
  g18 := by kernel_rfl
  g19 := by kernel_rfl }
open Go.RowKit Go.Sort Go.Lib in
/-- THE ROAD WITHOUT THE TABLE: 0 <= i < 100. (LAID: no walk: one application.) -/
theorem Tryz.internal_strconv_Itoa_small (i : Nat) (hi : i < 100) (w : World) :
    Calls Tryz.prog 224 #[.int .i64 i] w fun e w' => e = .returned (.string ⟨(Lib.decDigits i).toArray⟩) ∧ w' = w := Any.internal_strconv_Itoa_small Tryz.lays243 i hi w
def Tryz.laysM171_ren : Go.Shelf.Ren := ⟨fun | 171 => 181 | 243 => 224 | 246 => 248 | 283 => 271 | 284 => 272 | 285 => 273 | 286 => 274 | 129 => 223 | 317 => 286 | 318 => 287 | 319 => 288 | 320 => 289 | 337 => 298 | 338 => 299 | n => n, fun | 3 => 3 | 9 => 9 | 2 => 2 | 4 => 4 | 171 => 367 | 0 => 0 | 53 => 329 | 37 => 67 | 5 => 5 | 173 => 369 | 212 => 381 | 51 => 327 | 20 => 20 | 213 => 382 | 46 => 286 | 232 => 392 | 233 => 393 | n => n, fun | 17 => 1 | 18 => 5 | 19 => 6 | n => n⟩
theorem Tryz.laysM171 : Go.Proofs.LaysM.n171 Tryz.prog Tryz.laysM171_ren := {
  mixed := by kernel_rfl
  f129 := Tryz.func223.trans (congrArg some (by kernel_rfl))
  f171 := Tryz.func181.trans (congrArg some (by kernel_rfl))
  f243 := Tryz.func224.trans (congrArg some (by kernel_rfl))
  f246 := Tryz.func248.trans (congrArg some (by kernel_rfl))
  f283 := Tryz.func271.trans (congrArg some (by kernel_rfl))
  f284 := Tryz.func272.trans (congrArg some (by kernel_rfl))
  f285 := Tryz.func273.trans (congrArg some (by kernel_rfl))
  f286 := Tryz.func274.trans (congrArg some (by kernel_rfl))
  f317 := Tryz.func286.trans (congrArg some (by kernel_rfl))
  f318 := Tryz.func287.trans (congrArg some (by kernel_rfl))
  f319 := Tryz.func288.trans (congrArg some (by kernel_rfl))
  f320 := Tryz.func289.trans (congrArg some (by kernel_rfl))
  f337 := Tryz.func298.trans (congrArg some (by kernel_rfl))
  f338 := Tryz.func299.trans (congrArg some (by kernel_rfl))
  t0 := Tryz.underlying0
  a0 := Tryz.isAgg0
  z0 := Tryz.sizeOf0
  v0 := Tryz.zeroValue0
  t2 := Tryz.underlying2
  a2 := Tryz.isAgg2
  z2 := Tryz.sizeOf2
  v2 := Tryz.zeroValue2
  t3 := Tryz.underlying3
  a3 := Tryz.isAgg3
  z3 := Tryz.sizeOf3
  v3 := Tryz.zeroValue3
  t4 := Tryz.underlying4
  a4 := Tryz.isAgg4
  z4 := Tryz.sizeOf4
  v4 := Tryz.zeroValue4
  t5 := Tryz.underlying5
  a5 := Tryz.isAgg5
  z5 := Tryz.sizeOf5
  v5 := Tryz.zeroValue5
  t9 := Tryz.underlying9
  a9 := Tryz.isAgg9
  z9 := Tryz.sizeOf9
  v9 := Tryz.zeroValue9
  t20 := Tryz.underlying20
  a20 := Tryz.isAgg20
  z20 := Tryz.sizeOf20
  v20 := Tryz.zeroValue20
  t37 := Tryz.underlying67
  a37 := Tryz.isAgg67
  z37 := Tryz.sizeOf67
  v37 := Tryz.zeroValue67
  t46 := Tryz.underlying286
  a46 := Tryz.isAgg286
  z46 := Tryz.sizeOf286
  v46 := Tryz.zeroValue286
  t51 := Tryz.underlying327
  a51 := Tryz.isAgg327
  z51 := Tryz.sizeOf327
  v51 := Tryz.zeroValue327
  t53 := Tryz.underlying329
  a53 := Tryz.isAgg329
  z53 := Tryz.sizeOf329
  v53 := Tryz.zeroValue329
  t171 := Tryz.underlying367
  a171 := Tryz.isAgg367
  z171 := Tryz.sizeOf367
  v171 := Tryz.zeroValue367
  t173 := Tryz.underlying369
  a173 := Tryz.isAgg369
  z173 := Tryz.sizeOf369
  v173 := Tryz.zeroValue369
  t212 := Tryz.underlying381
  a212 := Tryz.isAgg381
  z212 := Tryz.sizeOf381
  v212 := Tryz.zeroValue381
  t213 := Tryz.underlying382
  a213 := Tryz.isAgg382
  z213 := Tryz.sizeOf382
  t232 := Tryz.underlying392
  a232 := Tryz.isAgg392
  z232 := Tryz.sizeOf392
  v232 := Tryz.zeroValue392
  t233 := Tryz.underlying393
  a233 := Tryz.isAgg393
  z233 := Tryz.sizeOf393
  v233 := Tryz.zeroValue393
  g17 := by kernel_rfl
  g18 := by kernel_rfl
  g19 := by kernel_rfl
  i0 := by kernel_rfl
  i2 := by kernel_rfl
  i3 := by kernel_rfl
  i4 := by kernel_rfl
  i5 := by kernel_rfl
  i9 := by kernel_rfl
  i20 := by kernel_rfl
  i37 := by kernel_rfl
  i46 := by kernel_rfl
  i51 := by kernel_rfl
  i53 := by kernel_rfl
  i171 := by kernel_rfl
  i173 := by kernel_rfl
  i212 := by kernel_rfl
  i232 := by kernel_rfl
  i233 := by kernel_rfl
  m17 := by kernel_rfl
  m18 := by kernel_rfl
  m19 := by kernel_rfl }
open Go.RowKit Go.Sort Go.Lib in
/-- strconv.Itoa: "Itoa is equivalent to FormatInt(int64(i), 10).": i's DECIMAL NUMERAL ('Lib.itoa': a '-' where i is negative, then the digits), FOR EVERY int. The world behind the call: the world before it, new blocks behind the heap (the library's 'var a [24]byte'), draws. (LAID: no walk: one application.) -/
theorem Tryz.strconv_Itoa (n : Int) (h0 : -9223372036854775808 ≤ n) (h1 : n ≤ 9223372036854775807) (w : World) (htab : Lib.TabIs Tryz.prog w "internal/strconv.uint64pow10" .u64 Lib.pow10Tab) :
    Calls Tryz.prog 181 #[.int .i64 n] w fun e w' => e = .returned (.string ⟨(Lib.itoa n).toArray⟩) ∧ ∃ k os, w' = grow (w.drewN k) os := Any.strconv_Itoa Tryz.laysM171 n h0 h1 w htab
def Tryz.lays171_ren : Go.Shelf.Ren := ⟨fun | 171 => 181 | 243 => 224 | 246 => 248 | 283 => 271 | 284 => 272 | 285 => 273 | 286 => 274 | 129 => 223 | 317 => 286 | 318 => 287 | 319 => 288 | 320 => 289 | 337 => 298 | 338 => 299 | n => n, fun | 3 => 3 | 9 => 9 | 2 => 2 | 4 => 4 | 171 => 367 | 0 => 0 | 53 => 329 | 37 => 67 | 5 => 5 | 173 => 369 | 212 => 381 | 51 => 327 | 20 => 20 | 213 => 382 | 46 => 286 | 232 => 392 | 233 => 393 | n => n, fun | 17 => 1 | 18 => 5 | 19 => 6 | n => n⟩
theorem Tryz.lays171 : Go.Proofs.Lays.n171 Tryz.prog Tryz.lays171_ren := {
  mixed := by kernel_rfl
  f129 := Tryz.func223.trans (congrArg some (by kernel_rfl))
  f171 := Tryz.func181.trans (congrArg some (by kernel_rfl))
  f243 := Tryz.func224.trans (congrArg some (by kernel_rfl))
  f246 := Tryz.func248.trans (congrArg some (by kernel_rfl))
  f283 := Tryz.func271.trans (congrArg some (by kernel_rfl))
  f284 := Tryz.func272.trans (congrArg some (by kernel_rfl))
  f285 := Tryz.func273.trans (congrArg some (by kernel_rfl))
  f286 := Tryz.func274.trans (congrArg some (by kernel_rfl))
  f317 := Tryz.func286.trans (congrArg some (by kernel_rfl))
  f318 := Tryz.func287.trans (congrArg some (by kernel_rfl))
  f319 := Tryz.func288.trans (congrArg some (by kernel_rfl))
  f320 := Tryz.func289.trans (congrArg some (by kernel_rfl))
  f337 := Tryz.func298.trans (congrArg some (by kernel_rfl))
  f338 := Tryz.func299.trans (congrArg some (by kernel_rfl))
  t0 := Tryz.underlying0
  a0 := Tryz.isAgg0
  z0 := Tryz.sizeOf0
  v0 := Tryz.zeroValue0
  t2 := Tryz.underlying2
  a2 := Tryz.isAgg2
  z2 := Tryz.sizeOf2
  v2 := Tryz.zeroValue2
  t3 := Tryz.underlying3
  a3 := Tryz.isAgg3
  z3 := Tryz.sizeOf3
  v3 := Tryz.zeroValue3
  t4 := Tryz.underlying4
  a4 := Tryz.isAgg4
  z4 := Tryz.sizeOf4
  v4 := Tryz.zeroValue4
  t5 := Tryz.underlying5
  a5 := Tryz.isAgg5
  z5 := Tryz.sizeOf5
  v5 := Tryz.zeroValue5
  t9 := Tryz.underlying9
  a9 := Tryz.isAgg9
  z9 := Tryz.sizeOf9
  v9 := Tryz.zeroValue9
  t20 := Tryz.underlying20
  a20 := Tryz.isAgg20
  z20 := Tryz.sizeOf20
  v20 := Tryz.zeroValue20
  t37 := Tryz.underlying67
  a37 := Tryz.isAgg67
  z37 := Tryz.sizeOf67
  v37 := Tryz.zeroValue67
  t46 := Tryz.underlying286
  a46 := Tryz.isAgg286
  z46 := Tryz.sizeOf286
  v46 := Tryz.zeroValue286
  t51 := Tryz.underlying327
  a51 := Tryz.isAgg327
  z51 := Tryz.sizeOf327
  v51 := Tryz.zeroValue327
  t53 := Tryz.underlying329
  a53 := Tryz.isAgg329
  z53 := Tryz.sizeOf329
  v53 := Tryz.zeroValue329
  t171 := Tryz.underlying367
  a171 := Tryz.isAgg367
  z171 := Tryz.sizeOf367
  v171 := Tryz.zeroValue367
  t173 := Tryz.underlying369
  a173 := Tryz.isAgg369
  z173 := Tryz.sizeOf369
  v173 := Tryz.zeroValue369
  t212 := Tryz.underlying381
  a212 := Tryz.isAgg381
  z212 := Tryz.sizeOf381
  v212 := Tryz.zeroValue381
  t213 := Tryz.underlying382
  a213 := Tryz.isAgg382
  z213 := Tryz.sizeOf382
  t232 := Tryz.underlying392
  a232 := Tryz.isAgg392
  z232 := Tryz.sizeOf392
  v232 := Tryz.zeroValue392
  t233 := Tryz.underlying393
  a233 := Tryz.isAgg393
  z233 := Tryz.sizeOf393
  v233 := Tryz.zeroValue393
  g17 := by kernel_rfl
  g18 := by kernel_rfl
  g19 := by kernel_rfl }
open Go.RowKit Go.Sort Go.Lib in
/-- THE ROAD WITHOUT THE TABLE: 0 <= i < 100: NO PREMISE ON THE WORLD, AND THE WORLD IS AS IT WAS: a row that keeps its argument in that range need list no table ('laid = []'). (LAID: no walk: one application.) -/
theorem Tryz.strconv_Itoa_small (i : Nat) (hi : i < 100) (w : World) :
    Calls Tryz.prog 181 #[.int .i64 i] w fun e w' => e = .returned (.string ⟨(Lib.decDigits i).toArray⟩) ∧ w' = w := Any.strconv_Itoa_small Tryz.lays171 i hi w
def Tryz.laysM316_ren : Go.Shelf.Ren := ⟨fun | 316 => 233 | n => n, fun | 9 => 9 | 3 => 3 | 4 => 4 | 37 => 67 | 0 => 0 | 127 => 357 | 5 => 5 | n => n, fun | n => n⟩
theorem Tryz.laysM316 : Go.Proofs.LaysM.n316 Tryz.prog Tryz.laysM316_ren := {
  mixed := by kernel_rfl
  f316 := Tryz.func233.trans (congrArg some (by kernel_rfl))
  t0 := Tryz.underlying0
  a0 := Tryz.isAgg0
  z0 := Tryz.sizeOf0
  v0 := Tryz.zeroValue0
  t3 := Tryz.underlying3
  a3 := Tryz.isAgg3
  z3 := Tryz.sizeOf3
  v3 := Tryz.zeroValue3
  t4 := Tryz.underlying4
  a4 := Tryz.isAgg4
  z4 := Tryz.sizeOf4
  v4 := Tryz.zeroValue4
  t9 := Tryz.underlying9
  a9 := Tryz.isAgg9
  z9 := Tryz.sizeOf9
  v9 := Tryz.zeroValue9
  t37 := Tryz.underlying67
  a37 := Tryz.isAgg67
  z37 := Tryz.sizeOf67
  v37 := Tryz.zeroValue67
  t127 := Tryz.underlying357
  a127 := Tryz.isAgg357
  z127 := Tryz.sizeOf357
  v127 := Tryz.zeroValue357
  t5 := Tryz.underlying5
  a5 := Tryz.isAgg5
  z5 := Tryz.sizeOf5
  v5 := Tryz.zeroValue5
  i0 := by kernel_rfl
  i3 := by kernel_rfl
  i4 := by kernel_rfl
  i5 := by kernel_rfl
  i9 := by kernel_rfl
  i37 := by kernel_rfl
  i127 := by kernel_rfl }
open Go.RowKit in
/-- internal/stringslite.Clone (what strings.Clone calls): "Clone returns a fresh copy of s.": THE SAME BYTES. Of what was there nothing has turned (a new row is laid, and frozen, where s is not empty). (LAID: no walk: one application.) -/
theorem Tryz.stringslite_Clone (s : ByteArray) (w : World) (hlim : s.size ≤ 281474976710656) :
    Calls Tryz.prog 233 #[.string s] w fun e w' => e = .returned (.string s) ∧ Below w.heap.size w w' := Any.stringslite_Clone Tryz.laysM316 s w hlim
def Tryz.lays217_ren : Go.Shelf.Ren := ⟨fun | 217 => 293 | 266 => 300 | n => n, fun | 9 => 9 | 5 => 5 | 3 => 3 | n => n, fun | n => n⟩
theorem Tryz.lays217 : Go.Proofs.Lays.n217 Tryz.prog Tryz.lays217_ren := {
  mixed := by kernel_rfl
  f217 := Tryz.func293.trans (congrArg some (by kernel_rfl))
  f266 := Tryz.func300.trans (congrArg some (by kernel_rfl))
  t3 := Tryz.underlying3
  a3 := Tryz.isAgg3
  z3 := Tryz.sizeOf3
  v3 := Tryz.zeroValue3
  t5 := Tryz.underlying5
  a5 := Tryz.isAgg5
  z5 := Tryz.sizeOf5
  v5 := Tryz.zeroValue5
  t9 := Tryz.underlying9
  a9 := Tryz.isAgg9
  z9 := Tryz.sizeOf9
  v9 := Tryz.zeroValue9 }
open Go.RowKit Go.Lib in
/-- internal/stringslite.IndexByte (what strings.IndexByte calls): IT RETURNS 'Lib.indexByte s c'; the world is as it was. (LAID: no walk: one application.) -/
theorem Tryz.stringslite_IndexByte (s : ByteArray) (c : Int) (w : World) :
    Calls Tryz.prog 293 #[.string s, .int .u8 c] w fun e w' => e = .returned (.int .i64 (Lib.indexByte s.data.toList c.toNat.toUInt8)) ∧ w' = w := Any.stringslite_IndexByte Tryz.lays217 s c w
def Tryz.lays224_ren : Go.Shelf.Ren := ⟨fun | 224 => 295 | n => n, fun | 3 => 3 | n => n, fun | n => n⟩
theorem Tryz.lays224 : Go.Proofs.Lays.n224 Tryz.prog Tryz.lays224_ren := {
  mixed := by kernel_rfl
  f224 := Tryz.func295.trans (congrArg some (by kernel_rfl))
  t3 := Tryz.underlying3
  a3 := Tryz.isAgg3
  z3 := Tryz.sizeOf3
  v3 := Tryz.zeroValue3 }
open Go.RowKit Go.Lib in
/-- internal/bytealg.Cutover: "Cutover reports the number of failures of IndexByte we should tolerate before switching over to Index. n is the number of bytes processed so far.": on amd64: (n + 16) / 8. (LAID: no walk: one application.) -/
theorem Tryz.bytealg_Cutover (n : Int) (h0 : 0 ≤ n) (h1 : n < 4611686018427387904) (w : World) :
    Calls Tryz.prog 295 #[.int .i64 n] w fun e w' => e = .returned (.int .i64 ((n + 16) / 8)) ∧ w' = w := Any.bytealg_Cutover Tryz.lays224 n h0 h1 w
def Tryz.lays314_ren : Go.Shelf.Ren := ⟨fun | 314 => 301 | n => n, fun | 9 => 9 | 51 => 327 | 3 => 3 | 4 => 4 | 5 => 5 | 46 => 286 | n => n, fun | n => n⟩
theorem Tryz.lays314 : Go.Proofs.Lays.n314 Tryz.prog Tryz.lays314_ren := {
  mixed := by kernel_rfl
  f314 := Tryz.func301.trans (congrArg some (by kernel_rfl))
  t3 := Tryz.underlying3
  a3 := Tryz.isAgg3
  z3 := Tryz.sizeOf3
  v3 := Tryz.zeroValue3
  t4 := Tryz.underlying4
  a4 := Tryz.isAgg4
  z4 := Tryz.sizeOf4
  v4 := Tryz.zeroValue4
  t5 := Tryz.underlying5
  a5 := Tryz.isAgg5
  z5 := Tryz.sizeOf5
  v5 := Tryz.zeroValue5
  t9 := Tryz.underlying9
  a9 := Tryz.isAgg9
  z9 := Tryz.sizeOf9
  v9 := Tryz.zeroValue9
  t46 := Tryz.underlying286
  a46 := Tryz.isAgg286
  z46 := Tryz.sizeOf286
  v46 := Tryz.zeroValue286
  t51 := Tryz.underlying327
  a51 := Tryz.isAgg327
  z51 := Tryz.sizeOf327
  v51 := Tryz.zeroValue327 }
open Go.RowKit Go.Lib in
/-- hashStr: "returns the hash and the appropriate multiplicative factor for use in Rabin-Karp algorithm": THE HASH OF ALL OF sep, AND 16777619 ^ len(sep), both in uint32. (LAID: no walk: one application.) -/
theorem Tryz.bytealg_hashStr (sep : ByteArray) (hs : sep.size < 4294967281) (w : World) :
    Calls Tryz.prog 301 #[.string sep] w fun e w' => e = .returned (.tuple #[.int .u32 (RK.H sep.data.toList % 4294967296), .int .u32 (16777619 ^ sep.size % 4294967296)]) ∧ w' = w := Any.bytealg_hashStr Tryz.lays314 sep hs w
def Tryz.lays267_ren : Go.Shelf.Ren := ⟨fun | 267 => 296 | 314 => 301 | n => n, fun | 9 => 9 | 3 => 3 | 146 => 371 | 51 => 327 | 4 => 4 | 5 => 5 | 46 => 286 | n => n, fun | n => n⟩
theorem Tryz.lays267 : Go.Proofs.Lays.n267 Tryz.prog Tryz.lays267_ren := {
  mixed := by kernel_rfl
  f267 := Tryz.func296.trans (congrArg some (by kernel_rfl))
  f314 := Tryz.func301.trans (congrArg some (by kernel_rfl))
  t3 := Tryz.underlying3
  a3 := Tryz.isAgg3
  z3 := Tryz.sizeOf3
  v3 := Tryz.zeroValue3
  t4 := Tryz.underlying4
  a4 := Tryz.isAgg4
  z4 := Tryz.sizeOf4
  v4 := Tryz.zeroValue4
  t5 := Tryz.underlying5
  a5 := Tryz.isAgg5
  z5 := Tryz.sizeOf5
  v5 := Tryz.zeroValue5
  t9 := Tryz.underlying9
  a9 := Tryz.isAgg9
  z9 := Tryz.sizeOf9
  v9 := Tryz.zeroValue9
  t46 := Tryz.underlying286
  a46 := Tryz.isAgg286
  z46 := Tryz.sizeOf286
  v46 := Tryz.zeroValue286
  t51 := Tryz.underlying327
  a51 := Tryz.isAgg327
  z51 := Tryz.sizeOf327
  v51 := Tryz.zeroValue327
  t146 := Tryz.underlying371
  a146 := Tryz.isAgg371
  z146 := Tryz.sizeOf371
  v146 := Tryz.zeroValue371 }
open Go.RowKit Go.Lib in
theorem Tryz.bytealg_IndexRabinKarp (s sep : ByteArray) (h1 : 1 ≤ sep.size) (h2 : sep.size ≤ s.size) (hs : s.size < 4294967281) (w : World) :
    Calls Tryz.prog 296 #[.string s, .string sep] w fun e w' => e = .returned (.int .i64 (Lib.index s.data.toList sep.data.toList)) ∧ w' = w := Any.bytealg_IndexRabinKarp Tryz.lays267 s sep h1 h2 hs w
def Tryz.lays219_ren : Go.Shelf.Ren := ⟨fun | 219 => 282 | 217 => 293 | 225 => 294 | 224 => 295 | 267 => 296 | 266 => 300 | 314 => 301 | n => n, fun | 9 => 9 | 3 => 3 | 4 => 4 | 5 => 5 | 46 => 286 | 146 => 371 | 51 => 327 | n => n, fun | 1 => 2 | n => n⟩
theorem Tryz.lays219 : Go.Proofs.Lays.n219 Tryz.prog Tryz.lays219_ren := {
  mixed := by kernel_rfl
  f217 := Tryz.func293.trans (congrArg some (by kernel_rfl))
  f219 := Tryz.func282.trans (congrArg some (by kernel_rfl))
  f224 := Tryz.func295.trans (congrArg some (by kernel_rfl))
  f225 := Tryz.func294.trans (congrArg some (by kernel_rfl))
  f266 := Tryz.func300.trans (congrArg some (by kernel_rfl))
  f267 := Tryz.func296.trans (congrArg some (by kernel_rfl))
  f314 := Tryz.func301.trans (congrArg some (by kernel_rfl))
  t3 := Tryz.underlying3
  a3 := Tryz.isAgg3
  z3 := Tryz.sizeOf3
  v3 := Tryz.zeroValue3
  t4 := Tryz.underlying4
  a4 := Tryz.isAgg4
  z4 := Tryz.sizeOf4
  v4 := Tryz.zeroValue4
  t5 := Tryz.underlying5
  a5 := Tryz.isAgg5
  z5 := Tryz.sizeOf5
  v5 := Tryz.zeroValue5
  t9 := Tryz.underlying9
  a9 := Tryz.isAgg9
  z9 := Tryz.sizeOf9
  v9 := Tryz.zeroValue9
  t46 := Tryz.underlying286
  a46 := Tryz.isAgg286
  z46 := Tryz.sizeOf286
  v46 := Tryz.zeroValue286
  t51 := Tryz.underlying327
  a51 := Tryz.isAgg327
  z51 := Tryz.sizeOf327
  v51 := Tryz.zeroValue327
  t146 := Tryz.underlying371
  a146 := Tryz.isAgg371
  z146 := Tryz.sizeOf371
  v146 := Tryz.zeroValue371
  g1 := by kernel_rfl }
open Go.RowKit Go.Lib in
/-- internal/stringslite.Index (what strings.Index calls) AT A substr OF ONE BYTE c: IT RETURNS 'Lib.indexByte s c'; the world is as it was. (LAID: no walk: one application.) -/
theorem Tryz.stringslite_Index_one (s : ByteArray) (c : UInt8) (w : World) :
    Calls Tryz.prog 282 #[.string s, .string ⟨#[c]⟩] w fun e w' => e = .returned (.int .i64 (Lib.indexByte s.data.toList c)) ∧ w' = w := Any.stringslite_Index_one Tryz.lays219 s c w
open Go.RowKit Go.Lib in
/-- internal/stringslite.Index (what strings.Index calls) AT A substr OF WHATEVER LENGTH: IT RETURNS 'Lib.index s substr'; the world is as it was. 'm': what internal/bytealg.MaxLen holds: whatever. (LAID: no walk: one application.) -/
theorem Tryz.stringslite_Index (s sub : ByteArray) (m : Int) (w : World) (hs : s.size < 4294967281) (hm : w.cell? ⟨2, 0, none⟩ = some (.int .i64 m)) :
    Calls Tryz.prog 282 #[.string s, .string sub] w fun e w' => e = .returned (.int .i64 (Lib.index s.data.toList sub.data.toList)) ∧ w' = w := Any.stringslite_Index Tryz.lays219 s sub m w hs hm
def Tryz.lays143_ren : Go.Shelf.Ren := ⟨fun | 143 => 259 | 219 => 282 | 217 => 293 | 225 => 294 | 224 => 295 | 267 => 296 | 266 => 300 | 314 => 301 | n => n, fun | 9 => 9 | 3 => 3 | 4 => 4 | 5 => 5 | 46 => 286 | 146 => 371 | 51 => 327 | n => n, fun | 1 => 2 | n => n⟩
theorem Tryz.lays143 : Go.Proofs.Lays.n143 Tryz.prog Tryz.lays143_ren := {
  mixed := by kernel_rfl
  f143 := Tryz.func259.trans (congrArg some (by kernel_rfl))
  f217 := Tryz.func293.trans (congrArg some (by kernel_rfl))
  f219 := Tryz.func282.trans (congrArg some (by kernel_rfl))
  f224 := Tryz.func295.trans (congrArg some (by kernel_rfl))
  f225 := Tryz.func294.trans (congrArg some (by kernel_rfl))
  f266 := Tryz.func300.trans (congrArg some (by kernel_rfl))
  f267 := Tryz.func296.trans (congrArg some (by kernel_rfl))
  f314 := Tryz.func301.trans (congrArg some (by kernel_rfl))
  t3 := Tryz.underlying3
  a3 := Tryz.isAgg3
  z3 := Tryz.sizeOf3
  v3 := Tryz.zeroValue3
  t4 := Tryz.underlying4
  a4 := Tryz.isAgg4
  z4 := Tryz.sizeOf4
  v4 := Tryz.zeroValue4
  t5 := Tryz.underlying5
  a5 := Tryz.isAgg5
  z5 := Tryz.sizeOf5
  v5 := Tryz.zeroValue5
  t9 := Tryz.underlying9
  a9 := Tryz.isAgg9
  z9 := Tryz.sizeOf9
  v9 := Tryz.zeroValue9
  t46 := Tryz.underlying286
  a46 := Tryz.isAgg286
  z46 := Tryz.sizeOf286
  v46 := Tryz.zeroValue286
  t51 := Tryz.underlying327
  a51 := Tryz.isAgg327
  z51 := Tryz.sizeOf327
  v51 := Tryz.zeroValue327
  t146 := Tryz.underlying371
  a146 := Tryz.isAgg371
  z146 := Tryz.sizeOf371
  v146 := Tryz.zeroValue371
  g1 := by kernel_rfl }
open Go.RowKit Go.Lib in
/-- strings.Index: "Index returns the index of the first instance of substr in s, or -1 if substr is not present in s.": AT A substr OF ONE BYTE c: IT RETURNS 'Lib.indexByte s c'; the world is as it was. (LAID: no walk: one application.) -/
theorem Tryz.strings_Index_one (s : ByteArray) (c : UInt8) (w : World) :
    Calls Tryz.prog 259 #[.string s, .string ⟨#[c]⟩] w fun e w' => e = .returned (.int .i64 (Lib.indexByte s.data.toList c)) ∧ w' = w := Any.strings_Index_one Tryz.lays143 s c w
open Go.RowKit Go.Lib in
/-- strings.Index: "Index returns the index of the first instance of substr in s, or -1 if substr is not present in s.": IT RETURNS 'Lib.index s substr'; the world is as it was. (LAID: no walk: one application.) -/
theorem Tryz.strings_Index (s sub : ByteArray) (m : Int) (w : World) (hs : s.size < 4294967281) (hm : w.cell? ⟨2, 0, none⟩ = some (.int .i64 m)) :
    Calls Tryz.prog 259 #[.string s, .string sub] w fun e w' => e = .returned (.int .i64 (Lib.index s.data.toList sub.data.toList)) ∧ w' = w := Any.strings_Index Tryz.lays143 s sub m w hs hm
def Tryz.lays138_ren : Go.Shelf.Ren := ⟨fun | 138 => 258 | 195 => 279 | 218 => 281 | 143 => 259 | 219 => 282 | 217 => 293 | 225 => 294 | 224 => 295 | 267 => 296 | 266 => 300 | 314 => 301 | n => n, fun | 9 => 9 | 3 => 3 | 4 => 4 | 5 => 5 | 0 => 0 | 46 => 286 | 146 => 371 | 51 => 327 | n => n, fun | 1 => 2 | n => n⟩
theorem Tryz.lays138 : Go.Proofs.Lays.n138 Tryz.prog Tryz.lays138_ren := {
  mixed := by kernel_rfl
  f138 := Tryz.func258.trans (congrArg some (by kernel_rfl))
  f143 := Tryz.func259.trans (congrArg some (by kernel_rfl))
  f195 := Tryz.func279.trans (congrArg some (by kernel_rfl))
  f217 := Tryz.func293.trans (congrArg some (by kernel_rfl))
  f218 := Tryz.func281.trans (congrArg some (by kernel_rfl))
  f219 := Tryz.func282.trans (congrArg some (by kernel_rfl))
  f224 := Tryz.func295.trans (congrArg some (by kernel_rfl))
  f225 := Tryz.func294.trans (congrArg some (by kernel_rfl))
  f266 := Tryz.func300.trans (congrArg some (by kernel_rfl))
  f267 := Tryz.func296.trans (congrArg some (by kernel_rfl))
  f314 := Tryz.func301.trans (congrArg some (by kernel_rfl))
  t0 := Tryz.underlying0
  a0 := Tryz.isAgg0
  z0 := Tryz.sizeOf0
  v0 := Tryz.zeroValue0
  t3 := Tryz.underlying3
  a3 := Tryz.isAgg3
  z3 := Tryz.sizeOf3
  v3 := Tryz.zeroValue3
  t4 := Tryz.underlying4
  a4 := Tryz.isAgg4
  z4 := Tryz.sizeOf4
  v4 := Tryz.zeroValue4
  t5 := Tryz.underlying5
  a5 := Tryz.isAgg5
  z5 := Tryz.sizeOf5
  v5 := Tryz.zeroValue5
  t9 := Tryz.underlying9
  a9 := Tryz.isAgg9
  z9 := Tryz.sizeOf9
  v9 := Tryz.zeroValue9
  t46 := Tryz.underlying286
  a46 := Tryz.isAgg286
  z46 := Tryz.sizeOf286
  v46 := Tryz.zeroValue286
  t51 := Tryz.underlying327
  a51 := Tryz.isAgg327
  z51 := Tryz.sizeOf327
  v51 := Tryz.zeroValue327
  t146 := Tryz.underlying371
  a146 := Tryz.isAgg371
  z146 := Tryz.sizeOf371
  v146 := Tryz.zeroValue371
  g1 := by kernel_rfl }
open Go.RowKit Go.Lib in
/-- strings.Count AT A substr OF ONE BYTE ('hp'): "Count counts the number of non-overlapping instances of substr in s.": IT RETURNS 'Lib.countByte s (that byte)'; the world is as it was. ✋ NO CONTRACT HERE YET at an empty substr (utf8.RuneCountInString) or at a longer one (a loop over strings.Index). (LAID: no walk: one application.) -/
theorem Tryz.strings_Count_one (s : ByteArray) (c : UInt8) (w : World) :
    Calls Tryz.prog 258 #[.string s, .string ⟨#[c]⟩] w fun e w' => e = .returned (.int .i64 (Lib.countByte s.data.toList c)) ∧ w' = w := Any.strings_Count_one Tryz.lays138 s c w
open Go.RowKit Go.Lib in
/-- strings.Count AT A substr OF TWO BYTES OR MORE: "Count counts the number of non-overlapping instances of substr in s.": IT RETURNS 'Lib.count s substr'; the world is as it was. (LAID: no walk: one application.) -/
theorem Tryz.strings_Count (s sub : ByteArray) (m : Int) (w : World) (hs : s.size < 4294967281) (hm : w.cell? ⟨2, 0, none⟩ = some (.int .i64 m)) (h2 : 2 ≤ sub.size) :
    Calls Tryz.prog 258 #[.string s, .string sub] w fun e w' => e = .returned (.int .i64 (Lib.countB s sub)) ∧ w' = w := Any.strings_Count Tryz.lays138 s sub m w hs hm h2
def Tryz.laysM219_ren : Go.Shelf.Ren := ⟨fun | 219 => 282 | 217 => 293 | 225 => 294 | 224 => 295 | 267 => 296 | 266 => 300 | 314 => 301 | n => n, fun | 9 => 9 | 3 => 3 | 4 => 4 | 5 => 5 | 46 => 286 | 146 => 371 | 51 => 327 | n => n, fun | 1 => 2 | n => n⟩
theorem Tryz.laysM219 : Go.Proofs.LaysM.n219 Tryz.prog Tryz.laysM219_ren := {
  mixed := by kernel_rfl
  f217 := Tryz.func293.trans (congrArg some (by kernel_rfl))
  f219 := Tryz.func282.trans (congrArg some (by kernel_rfl))
  f224 := Tryz.func295.trans (congrArg some (by kernel_rfl))
  f225 := Tryz.func294.trans (congrArg some (by kernel_rfl))
  f266 := Tryz.func300.trans (congrArg some (by kernel_rfl))
  f267 := Tryz.func296.trans (congrArg some (by kernel_rfl))
  f314 := Tryz.func301.trans (congrArg some (by kernel_rfl))
  t3 := Tryz.underlying3
  a3 := Tryz.isAgg3
  z3 := Tryz.sizeOf3
  v3 := Tryz.zeroValue3
  t4 := Tryz.underlying4
  a4 := Tryz.isAgg4
  z4 := Tryz.sizeOf4
  v4 := Tryz.zeroValue4
  t5 := Tryz.underlying5
  a5 := Tryz.isAgg5
  z5 := Tryz.sizeOf5
  v5 := Tryz.zeroValue5
  t9 := Tryz.underlying9
  a9 := Tryz.isAgg9
  z9 := Tryz.sizeOf9
  v9 := Tryz.zeroValue9
  t46 := Tryz.underlying286
  a46 := Tryz.isAgg286
  z46 := Tryz.sizeOf286
  v46 := Tryz.zeroValue286
  t51 := Tryz.underlying327
  a51 := Tryz.isAgg327
  z51 := Tryz.sizeOf327
  v51 := Tryz.zeroValue327
  t146 := Tryz.underlying371
  a146 := Tryz.isAgg371
  z146 := Tryz.sizeOf371
  v146 := Tryz.zeroValue371
  g1 := by kernel_rfl
  i3 := by kernel_rfl
  i4 := by kernel_rfl
  i5 := by kernel_rfl
  i9 := by kernel_rfl
  i46 := by kernel_rfl
  i51 := by kernel_rfl
  i146 := by kernel_rfl
  m1 := by kernel_rfl
  s1_3 := fun w h => Go.Proofs.cell_of_shapedOpen_int (zero := #[.int .i64 0]) (t := 3) h (of_decide_eq_true (by kernel_rfl)) (by kernel_rfl) rfl (by kernel_rfl) (by kernel_rfl) Tryz.underlying3 }
open Go.RowKit Go.Lib in
theorem Tryz.stringslite_Index_shaped (s sub : ByteArray) (w : World) (h : w.ShapedOpen Tryz.prog) (hs : s.size < 4294967281) :
    Calls Tryz.prog 282 #[.string s, .string sub] w fun e w' => e = .returned (.int .i64 (Lib.index s.data.toList sub.data.toList)) ∧ w' = w := Any.stringslite_Index_shaped Tryz.laysM219 s sub w h hs
def Tryz.laysM143_ren : Go.Shelf.Ren := ⟨fun | 143 => 259 | 219 => 282 | 217 => 293 | 225 => 294 | 224 => 295 | 267 => 296 | 266 => 300 | 314 => 301 | n => n, fun | 9 => 9 | 3 => 3 | 4 => 4 | 5 => 5 | 46 => 286 | 146 => 371 | 51 => 327 | n => n, fun | 1 => 2 | n => n⟩
theorem Tryz.laysM143 : Go.Proofs.LaysM.n143 Tryz.prog Tryz.laysM143_ren := {
  mixed := by kernel_rfl
  f143 := Tryz.func259.trans (congrArg some (by kernel_rfl))
  f217 := Tryz.func293.trans (congrArg some (by kernel_rfl))
  f219 := Tryz.func282.trans (congrArg some (by kernel_rfl))
  f224 := Tryz.func295.trans (congrArg some (by kernel_rfl))
  f225 := Tryz.func294.trans (congrArg some (by kernel_rfl))
  f266 := Tryz.func300.trans (congrArg some (by kernel_rfl))
  f267 := Tryz.func296.trans (congrArg some (by kernel_rfl))
  f314 := Tryz.func301.trans (congrArg some (by kernel_rfl))
  t3 := Tryz.underlying3
  a3 := Tryz.isAgg3
  z3 := Tryz.sizeOf3
  v3 := Tryz.zeroValue3
  t4 := Tryz.underlying4
  a4 := Tryz.isAgg4
  z4 := Tryz.sizeOf4
  v4 := Tryz.zeroValue4
  t5 := Tryz.underlying5
  a5 := Tryz.isAgg5
  z5 := Tryz.sizeOf5
  v5 := Tryz.zeroValue5
  t9 := Tryz.underlying9
  a9 := Tryz.isAgg9
  z9 := Tryz.sizeOf9
  v9 := Tryz.zeroValue9
  t46 := Tryz.underlying286
  a46 := Tryz.isAgg286
  z46 := Tryz.sizeOf286
  v46 := Tryz.zeroValue286
  t51 := Tryz.underlying327
  a51 := Tryz.isAgg327
  z51 := Tryz.sizeOf327
  v51 := Tryz.zeroValue327
  t146 := Tryz.underlying371
  a146 := Tryz.isAgg371
  z146 := Tryz.sizeOf371
  v146 := Tryz.zeroValue371
  g1 := by kernel_rfl
  i3 := by kernel_rfl
  i4 := by kernel_rfl
  i5 := by kernel_rfl
  i9 := by kernel_rfl
  i46 := by kernel_rfl
  i51 := by kernel_rfl
  i146 := by kernel_rfl
  m1 := by kernel_rfl
  s1_3 := fun w h => Go.Proofs.cell_of_shapedOpen_int (zero := #[.int .i64 0]) (t := 3) h (of_decide_eq_true (by kernel_rfl)) (by kernel_rfl) rfl (by kernel_rfl) (by kernel_rfl) Tryz.underlying3 }
open Go.RowKit Go.Lib in
theorem Tryz.strings_Index_shaped (s sub : ByteArray) (w : World) (h : w.ShapedOpen Tryz.prog) (hs : s.size < 4294967281) :
    Calls Tryz.prog 259 #[.string s, .string sub] w fun e w' => e = .returned (.int .i64 (Lib.index s.data.toList sub.data.toList)) ∧ w' = w := Any.strings_Index_shaped Tryz.laysM143 s sub w h hs
def Tryz.laysM138_ren : Go.Shelf.Ren := ⟨fun | 138 => 258 | 195 => 279 | 218 => 281 | 143 => 259 | 219 => 282 | 217 => 293 | 225 => 294 | 224 => 295 | 267 => 296 | 266 => 300 | 314 => 301 | n => n, fun | 9 => 9 | 3 => 3 | 4 => 4 | 5 => 5 | 0 => 0 | 46 => 286 | 146 => 371 | 51 => 327 | n => n, fun | 1 => 2 | n => n⟩
theorem Tryz.laysM138 : Go.Proofs.LaysM.n138 Tryz.prog Tryz.laysM138_ren := {
  mixed := by kernel_rfl
  f138 := Tryz.func258.trans (congrArg some (by kernel_rfl))
  f143 := Tryz.func259.trans (congrArg some (by kernel_rfl))
  f195 := Tryz.func279.trans (congrArg some (by kernel_rfl))
  f217 := Tryz.func293.trans (congrArg some (by kernel_rfl))
  f218 := Tryz.func281.trans (congrArg some (by kernel_rfl))
  f219 := Tryz.func282.trans (congrArg some (by kernel_rfl))
  f224 := Tryz.func295.trans (congrArg some (by kernel_rfl))
  f225 := Tryz.func294.trans (congrArg some (by kernel_rfl))
  f266 := Tryz.func300.trans (congrArg some (by kernel_rfl))
  f267 := Tryz.func296.trans (congrArg some (by kernel_rfl))
  f314 := Tryz.func301.trans (congrArg some (by kernel_rfl))
  t0 := Tryz.underlying0
  a0 := Tryz.isAgg0
  z0 := Tryz.sizeOf0
  v0 := Tryz.zeroValue0
  t3 := Tryz.underlying3
  a3 := Tryz.isAgg3
  z3 := Tryz.sizeOf3
  v3 := Tryz.zeroValue3
  t4 := Tryz.underlying4
  a4 := Tryz.isAgg4
  z4 := Tryz.sizeOf4
  v4 := Tryz.zeroValue4
  t5 := Tryz.underlying5
  a5 := Tryz.isAgg5
  z5 := Tryz.sizeOf5
  v5 := Tryz.zeroValue5
  t9 := Tryz.underlying9
  a9 := Tryz.isAgg9
  z9 := Tryz.sizeOf9
  v9 := Tryz.zeroValue9
  t46 := Tryz.underlying286
  a46 := Tryz.isAgg286
  z46 := Tryz.sizeOf286
  v46 := Tryz.zeroValue286
  t51 := Tryz.underlying327
  a51 := Tryz.isAgg327
  z51 := Tryz.sizeOf327
  v51 := Tryz.zeroValue327
  t146 := Tryz.underlying371
  a146 := Tryz.isAgg371
  z146 := Tryz.sizeOf371
  v146 := Tryz.zeroValue371
  g1 := by kernel_rfl
  i0 := by kernel_rfl
  i3 := by kernel_rfl
  i4 := by kernel_rfl
  i5 := by kernel_rfl
  i9 := by kernel_rfl
  i46 := by kernel_rfl
  i51 := by kernel_rfl
  i146 := by kernel_rfl
  m1 := by kernel_rfl
  s1_3 := fun w h => Go.Proofs.cell_of_shapedOpen_int (zero := #[.int .i64 0]) (t := 3) h (of_decide_eq_true (by kernel_rfl)) (by kernel_rfl) rfl (by kernel_rfl) (by kernel_rfl) Tryz.underlying3 }
open Go.RowKit Go.Lib in
theorem Tryz.strings_Count_shaped (s sub : ByteArray) (w : World) (h : w.ShapedOpen Tryz.prog) (hs : s.size < 4294967281) (h2 : 2 ≤ sub.size) :
    Calls Tryz.prog 258 #[.string s, .string sub] w fun e w' => e = .returned (.int .i64 (Lib.countB s sub)) ∧ w' = w := Any.strings_Count_shaped Tryz.laysM138 s sub w h hs h2
def Tryz.lays206_ren : Go.Shelf.Ren := ⟨fun | 206 => 231 | n => n, fun | 9 => 9 | 4 => 4 | 3 => 3 | n => n, fun | n => n⟩
theorem Tryz.lays206 : Go.Proofs.Lays.n206 Tryz.prog Tryz.lays206_ren := {
  mixed := by kernel_rfl
  f206 := Tryz.func231.trans (congrArg some (by kernel_rfl))
  t3 := Tryz.underlying3
  a3 := Tryz.isAgg3
  z3 := Tryz.sizeOf3
  v3 := Tryz.zeroValue3
  t4 := Tryz.underlying4
  a4 := Tryz.isAgg4
  z4 := Tryz.sizeOf4
  v4 := Tryz.zeroValue4
  t9 := Tryz.underlying9
  a9 := Tryz.isAgg9
  z9 := Tryz.sizeOf9
  v9 := Tryz.zeroValue9 }
open Go.RowKit Go.Lib in
/-- internal/stringslite.HasPrefix (what strings.HasPrefix calls). (LAID: no walk: one application.) -/
theorem Tryz.stringslite_HasPrefix (s p : ByteArray) (w : World) :
    Calls Tryz.prog 231 #[.string s, .string p] w fun e w' => e = .returned (.bool (Lib.hasPrefix s.data.toList p.data.toList)) ∧ w' = w := Any.stringslite_HasPrefix Tryz.lays206 s p w
def Tryz.lays99_ren : Go.Shelf.Ren := ⟨fun | 99 => 191 | 206 => 231 | n => n, fun | 9 => 9 | 4 => 4 | 3 => 3 | n => n, fun | n => n⟩
theorem Tryz.lays99 : Go.Proofs.Lays.n99 Tryz.prog Tryz.lays99_ren := {
  mixed := by kernel_rfl
  f99 := Tryz.func191.trans (congrArg some (by kernel_rfl))
  f206 := Tryz.func231.trans (congrArg some (by kernel_rfl))
  t3 := Tryz.underlying3
  a3 := Tryz.isAgg3
  z3 := Tryz.sizeOf3
  v3 := Tryz.zeroValue3
  t4 := Tryz.underlying4
  a4 := Tryz.isAgg4
  z4 := Tryz.sizeOf4
  v4 := Tryz.zeroValue4
  t9 := Tryz.underlying9
  a9 := Tryz.isAgg9
  z9 := Tryz.sizeOf9
  v9 := Tryz.zeroValue9 }
open Go.RowKit Go.Lib in
/-- strings.HasPrefix: "HasPrefix reports whether the string s begins with prefix.": IT RETURNS 'Lib.hasPrefix s prefix'; the world is as it was. (LAID: no walk: one application.) -/
theorem Tryz.strings_HasPrefix (s p : ByteArray) (w : World) :
    Calls Tryz.prog 191 #[.string s, .string p] w fun e w' => e = .returned (.bool (Lib.hasPrefix s.data.toList p.data.toList)) ∧ w' = w := Any.strings_HasPrefix Tryz.lays99 s p w
open Go.RowKit Go.Lib in
/-- strings.Count at whatever sep that is not empty: the two roads under one statement. (LAID: no walk: one application.) -/
theorem Tryz.strings_Count_any (s sep : ByteArray) (m : Int) (w : World) (hs : s.size < 4294967281) (hm : w.cell? ⟨2, 0, none⟩ = some (.int .i64 m)) (h1 : 1 ≤ sep.size) :
    Calls Tryz.prog 258 #[.string s, .string sep] w fun e w' => e = .returned (.int .i64 (Lib.countB s sep)) ∧ w' = w := Any.strings_Count_any Tryz.lays138 s sep m w hs hm h1
def Tryz.lays221_ren : Go.Shelf.Ren := ⟨fun | 221 => 232 | 268 => 257 | 138 => 258 | 143 => 259 | 195 => 279 | 197 => 280 | 218 => 281 | 219 => 282 | 260 => 292 | 217 => 293 | 225 => 294 | 224 => 295 | 267 => 296 | 266 => 300 | 314 => 301 | n => n, fun | 9 => 9 | 3 => 3 | 31 => 124 | 4 => 4 | 0 => 0 | 105 => 376 | 21 => 21 | 5 => 5 | 46 => 286 | 119 => 387 | 139 => 390 | 138 => 389 | 146 => 371 | 51 => 327 | n => n, fun | 1 => 2 | 3 => 3 | 4 => 4 | n => n⟩
theorem Tryz.lays221 : Go.Proofs.Lays.n221 Tryz.prog Tryz.lays221_ren := {
  mixed := by kernel_rfl
  f138 := Tryz.func258.trans (congrArg some (by kernel_rfl))
  f143 := Tryz.func259.trans (congrArg some (by kernel_rfl))
  f195 := Tryz.func279.trans (congrArg some (by kernel_rfl))
  f197 := Tryz.func280.trans (congrArg some (by kernel_rfl))
  f217 := Tryz.func293.trans (congrArg some (by kernel_rfl))
  f218 := Tryz.func281.trans (congrArg some (by kernel_rfl))
  f219 := Tryz.func282.trans (congrArg some (by kernel_rfl))
  f221 := Tryz.func232.trans (congrArg some (by kernel_rfl))
  f224 := Tryz.func295.trans (congrArg some (by kernel_rfl))
  f225 := Tryz.func294.trans (congrArg some (by kernel_rfl))
  f260 := Tryz.func292.trans (congrArg some (by kernel_rfl))
  f266 := Tryz.func300.trans (congrArg some (by kernel_rfl))
  f267 := Tryz.func296.trans (congrArg some (by kernel_rfl))
  f268 := Tryz.func257.trans (congrArg some (by kernel_rfl))
  f314 := Tryz.func301.trans (congrArg some (by kernel_rfl))
  t0 := Tryz.underlying0
  a0 := Tryz.isAgg0
  z0 := Tryz.sizeOf0
  v0 := Tryz.zeroValue0
  t3 := Tryz.underlying3
  a3 := Tryz.isAgg3
  z3 := Tryz.sizeOf3
  v3 := Tryz.zeroValue3
  t4 := Tryz.underlying4
  a4 := Tryz.isAgg4
  z4 := Tryz.sizeOf4
  v4 := Tryz.zeroValue4
  t5 := Tryz.underlying5
  a5 := Tryz.isAgg5
  z5 := Tryz.sizeOf5
  v5 := Tryz.zeroValue5
  t9 := Tryz.underlying9
  a9 := Tryz.isAgg9
  z9 := Tryz.sizeOf9
  v9 := Tryz.zeroValue9
  t21 := Tryz.underlying21
  a21 := Tryz.isAgg21
  z21 := Tryz.sizeOf21
  v21 := Tryz.zeroValue21
  t31 := Tryz.underlying124
  a31 := Tryz.isAgg124
  z31 := Tryz.sizeOf124
  v31 := Tryz.zeroValue124
  t46 := Tryz.underlying286
  a46 := Tryz.isAgg286
  z46 := Tryz.sizeOf286
  v46 := Tryz.zeroValue286
  t51 := Tryz.underlying327
  a51 := Tryz.isAgg327
  z51 := Tryz.sizeOf327
  v51 := Tryz.zeroValue327
  t105 := Tryz.underlying376
  a105 := Tryz.isAgg376
  z105 := Tryz.sizeOf376
  v105 := Tryz.zeroValue376
  t119 := Tryz.underlying387
  a119 := Tryz.isAgg387
  z119 := Tryz.sizeOf387
  t138 := Tryz.underlying389
  a138 := Tryz.isAgg389
  z138 := Tryz.sizeOf389
  v138 := Tryz.zeroValue389
  t139 := Tryz.underlying390
  a139 := Tryz.isAgg390
  z139 := Tryz.sizeOf390
  v139 := Tryz.zeroValue390
  t146 := Tryz.underlying371
  a146 := Tryz.isAgg371
  z146 := Tryz.sizeOf371
  v146 := Tryz.zeroValue371
  g1 := by kernel_rfl
  g3 := by kernel_rfl
  g4 := by kernel_rfl }
open Go.RowKit Go.Lib in
theorem Tryz.strings_genSplit (s sep : ByteArray) (sv : Nat) (n : Int) (N : Nat) (m : Int) (w : World) (hs : s.size < 4294967281) (hm : w.cell? ⟨2, 0, none⟩ = some (.int .i64 m)) (h1 : 1 ≤ sep.size) (hsv : sv ≤ sep.size) (hn0 : n ≠ 0) (hn63 : n ≤ 9223372036854775807) (hN : (N : Int) = min (if n < 0 then (Lib.countB s sep : Int) + 1 else n) ((s.size : Int) + 1)) :
    Calls Tryz.prog 232 #[.string s, .string sep, .int .i64 sv, .int .i64 n] w fun e w' =>
      e = .returned (.slice (some ⟨w.heap.size, 0, none⟩) (Lib.splitB sep sv (N - 1) s).length N) ∧ w' = w.alloc (.cells (Lib.cellsOf (Lib.splitB sep sv (N - 1) s) N) 9) := Any.strings_genSplit Tryz.lays221 (by kernel_rfl) s sep sv n N m w hs hm h1 hsv hn0 hn63 hN
def Tryz.lays146_ren : Go.Shelf.Ren := ⟨fun | 146 => 192 | 221 => 232 | 268 => 257 | 138 => 258 | 143 => 259 | 195 => 279 | 197 => 280 | 218 => 281 | 219 => 282 | 260 => 292 | 217 => 293 | 225 => 294 | 224 => 295 | 267 => 296 | 266 => 300 | 314 => 301 | n => n, fun | 9 => 9 | 31 => 124 | 3 => 3 | 4 => 4 | 0 => 0 | 105 => 376 | 21 => 21 | 5 => 5 | 46 => 286 | 119 => 387 | 139 => 390 | 138 => 389 | 146 => 371 | 51 => 327 | n => n, fun | 1 => 2 | 3 => 3 | 4 => 4 | n => n⟩
theorem Tryz.lays146 : Go.Proofs.Lays.n146 Tryz.prog Tryz.lays146_ren := {
  mixed := by kernel_rfl
  f138 := Tryz.func258.trans (congrArg some (by kernel_rfl))
  f143 := Tryz.func259.trans (congrArg some (by kernel_rfl))
  f146 := Tryz.func192.trans (congrArg some (by kernel_rfl))
  f195 := Tryz.func279.trans (congrArg some (by kernel_rfl))
  f197 := Tryz.func280.trans (congrArg some (by kernel_rfl))
  f217 := Tryz.func293.trans (congrArg some (by kernel_rfl))
  f218 := Tryz.func281.trans (congrArg some (by kernel_rfl))
  f219 := Tryz.func282.trans (congrArg some (by kernel_rfl))
  f221 := Tryz.func232.trans (congrArg some (by kernel_rfl))
  f224 := Tryz.func295.trans (congrArg some (by kernel_rfl))
  f225 := Tryz.func294.trans (congrArg some (by kernel_rfl))
  f260 := Tryz.func292.trans (congrArg some (by kernel_rfl))
  f266 := Tryz.func300.trans (congrArg some (by kernel_rfl))
  f267 := Tryz.func296.trans (congrArg some (by kernel_rfl))
  f268 := Tryz.func257.trans (congrArg some (by kernel_rfl))
  f314 := Tryz.func301.trans (congrArg some (by kernel_rfl))
  t0 := Tryz.underlying0
  a0 := Tryz.isAgg0
  z0 := Tryz.sizeOf0
  v0 := Tryz.zeroValue0
  t3 := Tryz.underlying3
  a3 := Tryz.isAgg3
  z3 := Tryz.sizeOf3
  v3 := Tryz.zeroValue3
  t4 := Tryz.underlying4
  a4 := Tryz.isAgg4
  z4 := Tryz.sizeOf4
  v4 := Tryz.zeroValue4
  t5 := Tryz.underlying5
  a5 := Tryz.isAgg5
  z5 := Tryz.sizeOf5
  v5 := Tryz.zeroValue5
  t9 := Tryz.underlying9
  a9 := Tryz.isAgg9
  z9 := Tryz.sizeOf9
  v9 := Tryz.zeroValue9
  t21 := Tryz.underlying21
  a21 := Tryz.isAgg21
  z21 := Tryz.sizeOf21
  v21 := Tryz.zeroValue21
  t31 := Tryz.underlying124
  a31 := Tryz.isAgg124
  z31 := Tryz.sizeOf124
  v31 := Tryz.zeroValue124
  t46 := Tryz.underlying286
  a46 := Tryz.isAgg286
  z46 := Tryz.sizeOf286
  v46 := Tryz.zeroValue286
  t51 := Tryz.underlying327
  a51 := Tryz.isAgg327
  z51 := Tryz.sizeOf327
  v51 := Tryz.zeroValue327
  t105 := Tryz.underlying376
  a105 := Tryz.isAgg376
  z105 := Tryz.sizeOf376
  v105 := Tryz.zeroValue376
  t119 := Tryz.underlying387
  a119 := Tryz.isAgg387
  z119 := Tryz.sizeOf387
  t138 := Tryz.underlying389
  a138 := Tryz.isAgg389
  z138 := Tryz.sizeOf389
  v138 := Tryz.zeroValue389
  t139 := Tryz.underlying390
  a139 := Tryz.isAgg390
  z139 := Tryz.sizeOf390
  v139 := Tryz.zeroValue390
  t146 := Tryz.underlying371
  a146 := Tryz.isAgg371
  z146 := Tryz.sizeOf371
  v146 := Tryz.zeroValue371
  g1 := by kernel_rfl
  g3 := by kernel_rfl
  g4 := by kernel_rfl }
open Go.RowKit Go.Lib in
/-- strings.Split. (LAID: no walk: one application.) -/
theorem Tryz.strings_Split (s sep : ByteArray) (m : Int) (w : World) (hs : s.size < 4294967281) (hm : w.cell? ⟨2, 0, none⟩ = some (.int .i64 m)) (h1 : 1 ≤ sep.size) :
    Calls Tryz.prog 192 #[.string s, .string sep] w fun e w' =>
      e = .returned (.slice (some ⟨w.heap.size, 0, none⟩) (Lib.countB s sep + 1) (Lib.countB s sep + 1)) ∧ w' = w.alloc (.cells ((Lib.splitB sep 0 (Lib.countB s sep) s).map Value.string).toArray 9) := Any.strings_Split Tryz.lays146 (by kernel_rfl) s sep m w hs hm h1
def Tryz.laysM146_ren : Go.Shelf.Ren := ⟨fun | 146 => 192 | 221 => 232 | 268 => 257 | 138 => 258 | 143 => 259 | 195 => 279 | 197 => 280 | 218 => 281 | 219 => 282 | 260 => 292 | 217 => 293 | 225 => 294 | 224 => 295 | 267 => 296 | 266 => 300 | 314 => 301 | n => n, fun | 9 => 9 | 31 => 124 | 3 => 3 | 4 => 4 | 0 => 0 | 105 => 376 | 21 => 21 | 5 => 5 | 46 => 286 | 119 => 387 | 139 => 390 | 138 => 389 | 146 => 371 | 51 => 327 | n => n, fun | 1 => 2 | 3 => 3 | 4 => 4 | n => n⟩
theorem Tryz.laysM146 : Go.Proofs.LaysM.n146 Tryz.prog Tryz.laysM146_ren := {
  mixed := by kernel_rfl
  f138 := Tryz.func258.trans (congrArg some (by kernel_rfl))
  f143 := Tryz.func259.trans (congrArg some (by kernel_rfl))
  f146 := Tryz.func192.trans (congrArg some (by kernel_rfl))
  f195 := Tryz.func279.trans (congrArg some (by kernel_rfl))
  f197 := Tryz.func280.trans (congrArg some (by kernel_rfl))
  f217 := Tryz.func293.trans (congrArg some (by kernel_rfl))
  f218 := Tryz.func281.trans (congrArg some (by kernel_rfl))
  f219 := Tryz.func282.trans (congrArg some (by kernel_rfl))
  f221 := Tryz.func232.trans (congrArg some (by kernel_rfl))
  f224 := Tryz.func295.trans (congrArg some (by kernel_rfl))
  f225 := Tryz.func294.trans (congrArg some (by kernel_rfl))
  f260 := Tryz.func292.trans (congrArg some (by kernel_rfl))
  f266 := Tryz.func300.trans (congrArg some (by kernel_rfl))
  f267 := Tryz.func296.trans (congrArg some (by kernel_rfl))
  f268 := Tryz.func257.trans (congrArg some (by kernel_rfl))
  f314 := Tryz.func301.trans (congrArg some (by kernel_rfl))
  t0 := Tryz.underlying0
  a0 := Tryz.isAgg0
  z0 := Tryz.sizeOf0
  v0 := Tryz.zeroValue0
  t3 := Tryz.underlying3
  a3 := Tryz.isAgg3
  z3 := Tryz.sizeOf3
  v3 := Tryz.zeroValue3
  t4 := Tryz.underlying4
  a4 := Tryz.isAgg4
  z4 := Tryz.sizeOf4
  v4 := Tryz.zeroValue4
  t5 := Tryz.underlying5
  a5 := Tryz.isAgg5
  z5 := Tryz.sizeOf5
  v5 := Tryz.zeroValue5
  t9 := Tryz.underlying9
  a9 := Tryz.isAgg9
  z9 := Tryz.sizeOf9
  v9 := Tryz.zeroValue9
  t21 := Tryz.underlying21
  a21 := Tryz.isAgg21
  z21 := Tryz.sizeOf21
  v21 := Tryz.zeroValue21
  t31 := Tryz.underlying124
  a31 := Tryz.isAgg124
  z31 := Tryz.sizeOf124
  v31 := Tryz.zeroValue124
  t46 := Tryz.underlying286
  a46 := Tryz.isAgg286
  z46 := Tryz.sizeOf286
  v46 := Tryz.zeroValue286
  t51 := Tryz.underlying327
  a51 := Tryz.isAgg327
  z51 := Tryz.sizeOf327
  v51 := Tryz.zeroValue327
  t105 := Tryz.underlying376
  a105 := Tryz.isAgg376
  z105 := Tryz.sizeOf376
  v105 := Tryz.zeroValue376
  t119 := Tryz.underlying387
  a119 := Tryz.isAgg387
  z119 := Tryz.sizeOf387
  t138 := Tryz.underlying389
  a138 := Tryz.isAgg389
  z138 := Tryz.sizeOf389
  v138 := Tryz.zeroValue389
  t139 := Tryz.underlying390
  a139 := Tryz.isAgg390
  z139 := Tryz.sizeOf390
  v139 := Tryz.zeroValue390
  t146 := Tryz.underlying371
  a146 := Tryz.isAgg371
  z146 := Tryz.sizeOf371
  v146 := Tryz.zeroValue371
  g1 := by kernel_rfl
  g3 := by kernel_rfl
  g4 := by kernel_rfl
  i0 := by kernel_rfl
  i3 := by kernel_rfl
  i4 := by kernel_rfl
  i5 := by kernel_rfl
  i9 := by kernel_rfl
  i21 := by kernel_rfl
  i31 := by kernel_rfl
  i46 := by kernel_rfl
  i51 := by kernel_rfl
  i105 := by kernel_rfl
  i138 := by kernel_rfl
  i139 := by kernel_rfl
  i146 := by kernel_rfl
  m1 := by kernel_rfl
  s1_3 := fun w h => Go.Proofs.cell_of_shapedOpen_int (zero := #[.int .i64 0]) (t := 3) h (of_decide_eq_true (by kernel_rfl)) (by kernel_rfl) rfl (by kernel_rfl) (by kernel_rfl) Tryz.underlying3
  m3 := by kernel_rfl
  m4 := by kernel_rfl }
open Go.RowKit Go.Lib in
/-- strings.Split, sep not empty. (LAID: no walk: one application.) -/
theorem Tryz.strings_Split_shaped (s sep : ByteArray) (w : World) (h : w.ShapedOpen Tryz.prog) (hs : s.size < 4294967281) (h1 : 1 ≤ sep.size) :
    Calls Tryz.prog 192 #[.string s, .string sep] w fun e w' =>
      e = .returned (.slice (some ⟨w.heap.size, 0, none⟩) (Lib.countB s sep + 1) (Lib.countB s sep + 1)) ∧ w' = w.alloc (.cells ((Lib.splitB sep 0 (Lib.countB s sep) s).map Value.string).toArray 9) := Any.strings_Split_shaped Tryz.laysM146 s sep w h hs h1
def Tryz.lays264_ren : Go.Shelf.Ren := ⟨fun | 264 => 276 | n => n, fun | 53 => 329 | 46 => 286 | n => n, fun | n => n⟩
theorem Tryz.lays264 : Go.Proofs.Lays.n264 Tryz.prog Tryz.lays264_ren := {
  mixed := by kernel_rfl
  f264 := Tryz.func276.trans (congrArg some (by kernel_rfl))
  t46 := Tryz.underlying286
  a46 := Tryz.isAgg286
  z46 := Tryz.sizeOf286
  v46 := Tryz.zeroValue286
  t53 := Tryz.underlying329
  a53 := Tryz.isAgg329
  z53 := Tryz.sizeOf329
  v53 := Tryz.zeroValue329 }
open Go.RowKit Go.Lib in
theorem Tryz.bits_Mul64 (x y : Nat) (hx : x < 18446744073709551616) (hy : y < 18446744073709551616) (w : World) :
    Calls Tryz.prog 276 #[.int .u64 x, .int .u64 y] w fun e w' => e = .returned (.tuple #[.int .u64 ((x * y / 18446744073709551616 : Nat) : Int), .int .u64 ((x * y % 18446744073709551616 : Nat) : Int)]) ∧ w' = w := Any.bits_Mul64 Tryz.lays264 x y hx hy w
def Tryz.lays212_ren : Go.Shelf.Ren := ⟨fun | 212 => 252 | 263 => 275 | 264 => 276 | n => n, fun | 46 => 286 | 51 => 327 | 146 => 371 | 53 => 329 | 148 => 373 | n => n, fun | n => n⟩
theorem Tryz.lays212 : Go.Proofs.Lays.n212 Tryz.prog Tryz.lays212_ren := {
  mixed := by kernel_rfl
  f212 := Tryz.func252.trans (congrArg some (by kernel_rfl))
  f263 := Tryz.func275.trans (congrArg some (by kernel_rfl))
  f264 := Tryz.func276.trans (congrArg some (by kernel_rfl))
  t46 := Tryz.underlying286
  a46 := Tryz.isAgg286
  z46 := Tryz.sizeOf286
  v46 := Tryz.zeroValue286
  t51 := Tryz.underlying327
  a51 := Tryz.isAgg327
  z51 := Tryz.sizeOf327
  v51 := Tryz.zeroValue327
  t53 := Tryz.underlying329
  a53 := Tryz.isAgg329
  z53 := Tryz.sizeOf329
  v53 := Tryz.zeroValue329
  t146 := Tryz.underlying371
  a146 := Tryz.isAgg371
  z146 := Tryz.sizeOf371
  v146 := Tryz.zeroValue371
  t148 := Tryz.underlying373
  a148 := Tryz.isAgg373
  z148 := Tryz.sizeOf373
  v148 := Tryz.zeroValue373 }
open Go.RowKit Go.Lib in
/-- math/bits.Mul: "Mul returns the full-width product of x and y": on a machine of 64 bits: Mul64's. (LAID: no walk: one application.) -/
theorem Tryz.bits_Mul (x y : Nat) (hx : x < 18446744073709551616) (hy : y < 18446744073709551616) (w : World) :
    Calls Tryz.prog 252 #[.int .u64 x, .int .u64 y] w fun e w' => e = .returned (.tuple #[.int .u64 ((x * y / 18446744073709551616 : Nat) : Int), .int .u64 ((x * y % 18446744073709551616 : Nat) : Int)]) ∧ w' = w := Any.bits_Mul Tryz.lays212 x y hx hy w
def Tryz.lays260_ren : Go.Shelf.Ren := ⟨fun | 260 => 292 | n => n, fun | 9 => 9 | 21 => 21 | 3 => 3 | 4 => 4 | 5 => 5 | 119 => 387 | 0 => 0 | 46 => 286 | 139 => 390 | 138 => 389 | n => n, fun | 3 => 3 | 4 => 4 | n => n⟩
theorem Tryz.lays260 : Go.Proofs.Lays.n260 Tryz.prog Tryz.lays260_ren := {
  mixed := by kernel_rfl
  f260 := Tryz.func292.trans (congrArg some (by kernel_rfl))
  t0 := Tryz.underlying0
  a0 := Tryz.isAgg0
  z0 := Tryz.sizeOf0
  v0 := Tryz.zeroValue0
  t3 := Tryz.underlying3
  a3 := Tryz.isAgg3
  z3 := Tryz.sizeOf3
  v3 := Tryz.zeroValue3
  t4 := Tryz.underlying4
  a4 := Tryz.isAgg4
  z4 := Tryz.sizeOf4
  v4 := Tryz.zeroValue4
  t5 := Tryz.underlying5
  a5 := Tryz.isAgg5
  z5 := Tryz.sizeOf5
  v5 := Tryz.zeroValue5
  t9 := Tryz.underlying9
  a9 := Tryz.isAgg9
  z9 := Tryz.sizeOf9
  v9 := Tryz.zeroValue9
  t21 := Tryz.underlying21
  a21 := Tryz.isAgg21
  z21 := Tryz.sizeOf21
  v21 := Tryz.zeroValue21
  t46 := Tryz.underlying286
  a46 := Tryz.isAgg286
  z46 := Tryz.sizeOf286
  v46 := Tryz.zeroValue286
  t119 := Tryz.underlying387
  a119 := Tryz.isAgg387
  z119 := Tryz.sizeOf387
  t138 := Tryz.underlying389
  a138 := Tryz.isAgg389
  z138 := Tryz.sizeOf389
  v138 := Tryz.zeroValue389
  t139 := Tryz.underlying390
  a139 := Tryz.isAgg390
  z139 := Tryz.sizeOf390
  v139 := Tryz.zeroValue390
  g3 := by kernel_rfl
  g4 := by kernel_rfl }
open Go.RowKit Go.Lib in
theorem Tryz.utf8_decodeRuneInStringSlow (s : ByteArray) (w : World) (hT : Lib.Utf8Tabs 3 4 w) :
    Calls Tryz.prog 292 #[.string s] w fun e w' => e = .returned (.tuple #[.int .i32 (Lib.decodeGo s).1, .int .i64 (Lib.decodeGo s).2]) ∧ Below w.heap.size w w' := Any.utf8_decodeRuneInStringSlow Tryz.lays260 s w hT
def Tryz.laysSlE041_f176_ren : Go.Shelf.Ren := ⟨fun | 41 => 176 | n => n, fun | 22 => 124 | 23 => 9 | 4 => 4 | n => n, fun | n => n⟩
theorem Tryz.laysSlE041_f176 : Go.Proofs.SlLaysE0.n41 Tryz.prog Tryz.laysSlE041_f176_ren := {
  mixed := by kernel_rfl
  f41 := ⟨Tryz.f176.name, by decide, Tryz.func176.trans (congrArg some (by kernel_rfl))⟩
  t4 := Tryz.underlying4
  a4 := Tryz.isAgg4
  z4 := Tryz.sizeOf4
  v4 := Tryz.zeroValue4
  t22 := Tryz.underlying124
  a22 := Tryz.isAgg124
  z22 := Tryz.sizeOf124
  v22 := Tryz.zeroValue124 }
open Go.RowKit Go.Lib in
/-- slices.Clone: "Clone returns a copy of the slice. The elements are copied using assignment, so this is a shallow clone. The result may have additional unused capacity. The result preserves the nilness of s.": OF A SLICE THAT IS NOT nil IT RETURNS A SLICE THAT IS NOT nil, OF THE SAME CELLS, IN MEMORY OF THE CALL's OWN ('ownsRow': the how-to's 6f); below the heap's size at the call all is as it was. (LAID AT THE INSTANCE 'slices.Clone[[]string,string]': no walk: one application.) -/
theorem Tryz.slices_Clone (i0 : TypeInfo) (z : Value) (size bytes : Nat) (hi : Tryz.prog.info? 9 = some i0) (hz0 : i0.zero = some z) (hz1 : i0.size = size) (hz2 : i0.bytes = bytes) (hzs : z.cells.size = size) (hsz : 0 < size) (z23 : ∀ w, (Go.sizeOf 9).run Tryz.prog w = .ok size w) (b off n c : Nat) (news : List Value) (w : World) (hl : news.length = n * size) (hn : n ≤ maxLen) (hbig : n * bytes ≤ 140737488355328) (hc : ∀ j u, news[j]? = some u → w.cell? ⟨b, off + j, none⟩ = some u) (h1 : ∀ u ∈ news, u.oneCell' = true) :
    Calls Tryz.prog 176 #[.slice (some ⟨b, off, none⟩) n c] w fun e w' => ∃ v', e = .returned v' ∧ w'.ownsRow w.heap.size 9 size v' n news ∧ v' ≠ .slice none 0 0 ∧ Below w.heap.size w w' := AnyE.slices_Clone Tryz.laysSlE041_f176 i0 z size bytes hi hz0 hz1 hz2 hzs hsz z23 b off n c news w hl hn hbig hc h1
open Go.RowKit Go.Lib in
/-- The same at nil: nil comes back; the world is as it was; nothing is asked of the element's type. (LAID AT THE INSTANCE 'slices.Clone[[]string,string]': no walk: one application.) -/
theorem Tryz.slices_Clone_nil (n c : Nat) (w : World) :
    Calls Tryz.prog 176 #[.slice none n c] w fun e w' => e = .returned (.slice none 0 0) ∧ w' = w := AnyE.slices_Clone_nil Tryz.laysSlE041_f176 n c w
end Go.Proofs
