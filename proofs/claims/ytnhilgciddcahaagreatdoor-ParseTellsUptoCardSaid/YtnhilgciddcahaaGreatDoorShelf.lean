/-
  DERIVED: THE SHELF's CONTRACTS AT THIS DUMP, IN PLAIN WORDS (tools/lay-plain.mjs out of 'TryzShelf.lean', which tools/lay-shelf.mjs wrote): THE SAME DECLARATIONS UNDER THE SAME NAMES: 'import', 'namespace', 'open', 'def', 'theorem' AND NOTHING ELSE: no command of the shelf's: FOR A HAND-IN. Each laying: the table of numbers ('.._ren') and one theorem, a field a fact of the dump's own or the kernel's comparison; each contract: ONE APPLICATION.
-/
import Derived.Shelf.Strings.Builder1
import Derived.Shelf.Strings.Builder2
import Derived.Shelf.Strings.OnBuilder
import Derived.Shelf.Strings.Trim
import Derived.Shelf.Small.Utf8
import Derived.Shelf.Small.Strs
import Derived.Shelf.Strings.BuilderF
import Derived.Shelf.Strings.BuilderK
import Derived.Shelf.Strings.Builder2Cap
import Derived.Shelf.Strconv.Atoi
import Derived.Shelf.Strconv.Itoa0
import Derived.Shelf.Strconv.Itoa1
import Derived.Shelf.LaysM
import Derived.Shelf.Strconv.Itoa2
import Derived.Shelf.Strconv.Itoa3
import Derived.Shelf.Strconv.AtoiErrFast
import Derived.Shelf.Strconv.ParseIntEmpty
import Derived.Shelf.Strconv.AtoiFail
import Derived.Shelf.Strconv.Clone
import Derived.Shelf.Strconv.SyntaxError
import Derived.Shelf.LaysC
import Derived.Shelf.Strconv.ToError
import Derived.Shelf.Strconv.AtoiErr
import Derived.Shelf.Strconv.ErrVar
import Derived.Shelf.Strconv.Lower
import Derived.Shelf.Strconv.ParseUint10
import Derived.Shelf.Strconv.ParseUint10Empty
import Derived.Shelf.Strconv.ParseUint10Any
import Derived.Shelf.Strconv.ParseInt10
import Derived.Shelf.Strconv.AtoiLong
import Derived.Shelf.Strconv.AtoiInnerAll
import Derived.Shelf.Strconv.RangeError
import Derived.Shelf.Strconv.ToErrorRange
import Derived.Shelf.Strconv.AtoiAll
import Derived.Shelf.Strconv.ErrVarAll
import Derived.Shelf.Strconv.ParseUintEmpty
import Derived.Shelf.Strconv.ParseUint10b64
import Derived.Shelf.Strconv.ParseUint10b32
import Derived.Shelf.Strconv.ParseUint10b16
import Derived.Shelf.Strconv.ParseUint10b8
import Derived.Shelf.Strconv.ParseUint10At
import Derived.Shelf.Strconv.ParseInt10At64
import Derived.Shelf.Strconv.ParseInt10At32
import Derived.Shelf.Strconv.ParseInt10At16
import Derived.Shelf.Strconv.ParseInt10At8
import Derived.Shelf.Strconv.ParseInt10All
import Derived.Shelf.Strings.Search1
import Derived.Shelf.Strings.Search2
import Derived.Shelf.Strings.Cut
import Derived.Shelf.Strings.Shaped
import Derived.Shelf.Unicode.Decode
import Derived.Shelf.Strings.Runes
import Derived.Shelf.Strings.AsciiSet
import Derived.Shelf.Unicode.DecodeSlow
import Derived.Shelf.Unicode.DecodeAny
import Derived.Shelf.Strings.BuilderCap
import Derived.Test.YtnhilgciddcahaaGreatDoorProg
namespace Go.Proofs
open Go.Shelf
def Tryz.lays156_ren : Go.Shelf.Ren := ⟨fun | 156 => 31 | 165 => 43 | 166 => 44 | 169 => 45 | 240 => 59 | 241 => 60 | 276 => 74 | 277 => 75 | n => n, fun | 31 => 42 | 9 => 9 | 3 => 3 | 4 => 4 | 0 => 0 | 20 => 20 | 72 => 71 | 76 => 75 | 70 => 69 | 37 => 39 | 75 => 74 | 127 => 91 | 164 => 102 | 5 => 5 | 80 => 77 | n => n, fun | n => n⟩
theorem Tryz.lays156 : Go.Proofs.Lays.n156 Tryz.prog Tryz.lays156_ren := {
  mixed := by kernel_rfl
  f156 := Tryz.func31.trans (congrArg some (by kernel_rfl))
  f165 := Tryz.func43.trans (congrArg some (by kernel_rfl))
  f166 := Tryz.func44.trans (congrArg some (by kernel_rfl))
  f169 := Tryz.func45.trans (congrArg some (by kernel_rfl))
  f240 := Tryz.func59.trans (congrArg some (by kernel_rfl))
  f241 := Tryz.func60.trans (congrArg some (by kernel_rfl))
  f276 := Tryz.func74.trans (congrArg some (by kernel_rfl))
  f277 := Tryz.func75.trans (congrArg some (by kernel_rfl))
  t0 := Tryz.underlying0
  a0 := Tryz.isAgg0
  z0 := Tryz.sizeOf0
  v0 := Tryz.zeroValue0
  t3 := Tryz.underlying3
  a3 := Tryz.isAgg3
  z3 := Tryz.sizeOf3
  v3 := Tryz.zeroValue3
  t4 := Tryz.underlying4
  a4 := Tryz.isAgg4
  z4 := Tryz.sizeOf4
  v4 := Tryz.zeroValue4
  t9 := Tryz.underlying9
  a9 := Tryz.isAgg9
  z9 := Tryz.sizeOf9
  v9 := Tryz.zeroValue9
  t20 := Tryz.underlying20
  a20 := Tryz.isAgg20
  z20 := Tryz.sizeOf20
  v20 := Tryz.zeroValue20
  t31 := Tryz.underlying42
  a31 := Tryz.isAgg42
  z31 := Tryz.sizeOf42
  v31 := Tryz.zeroValue42
  t37 := Tryz.underlying39
  a37 := Tryz.isAgg39
  z37 := Tryz.sizeOf39
  v37 := Tryz.zeroValue39
  t70 := Tryz.underlying69
  a70 := Tryz.isAgg69
  z70 := Tryz.sizeOf69
  v70 := Tryz.zeroValue69
  t72 := Tryz.underlying71
  a72 := Tryz.isAgg71
  z72 := Tryz.sizeOf71
  v72 := Tryz.zeroValue71
  t75 := Tryz.underlying74
  a75 := Tryz.isAgg74
  z75 := Tryz.sizeOf74
  v75 := Tryz.zeroValue74
  t76 := Tryz.underlying75
  a76 := Tryz.isAgg75
  z76 := Tryz.sizeOf75
  v76 := Tryz.zeroValue75
  t127 := Tryz.underlying91
  a127 := Tryz.isAgg91
  z127 := Tryz.sizeOf91
  v127 := Tryz.zeroValue91
  t164 := Tryz.underlying102
  a164 := Tryz.isAgg102
  z164 := Tryz.sizeOf102
  v164 := Tryz.zeroValue102 }
theorem Tryz.Builder_Extra_156 : Builder.Extra Tryz.prog Tryz.lays156_ren := {
  sizeBuilder := by kernel_rfl
  liesBuilder := by kernel_rfl
  t5 := Tryz.underlying5
  a5 := Tryz.isAgg5
  z5 := Tryz.sizeOf5
  v5 := Tryz.zeroValue5
  infoByte := by kernel_rfl
  cellsByte := by kernel_rfl
  sizeByte := by kernel_rfl
  neB5 := by decide }
open Go.RowKit in
/-- No element: the empty string; the world is as it was. (Whatever the slice's address and capacity: a nil slice too.) (LAID: no walk: one application.) -/
theorem Tryz.strings_Join_none (a : Option Addr) (c : Nat) (sep : ByteArray) (w : World) :
    Calls Tryz.prog 31 #[.slice a 0 c, .string sep] w fun e w' => e = .returned (.string ⟨#[]⟩) ∧ w' = w := Any.strings_Join_none Tryz.lays156 Tryz.Builder_Extra_156 a c sep w
open Go.RowKit in
/-- strings.Join: "Join concatenates the elements of its first argument to create a single string. The separator string sep is placed between elements in the resulting string.": HOWEVER MANY ELEMENTS. Below the heap's end the world is as it was. (LAID: no walk: one application.) -/
theorem Tryz.strings_Join (bk o c : Nat) (xs : List ByteArray) (sep : ByteArray) (w : World) (hcells : ∀ (j : Nat) x, xs[j]? = some x → w.cell? ⟨bk, o + j, none⟩ = some (.string x)) (hbk : bk < w.heap.size) (hN : xs.length ≤ 140737488355328) (hcap : xs.length ≤ c) (hlen : (Lib.join (xs.map (·.data.toList)) sep.data.toList).length ≤ 140737488355328) :
    Calls Tryz.prog 31 #[.slice (some ⟨bk, o, none⟩) xs.length c, .string sep] w fun e w' => e = .returned (.string ⟨(Lib.join (xs.map (·.data.toList)) sep.data.toList).toArray⟩) ∧ Below w.heap.size w w' := Any.strings_Join Tryz.lays156 Tryz.Builder_Extra_156 bk o c xs sep w hcells hbk hN hcap hlen
def Tryz.lays137_ren : Go.Shelf.Ren := ⟨fun | 137 => 34 | 217 => 50 | 266 => 64 | n => n, fun | 9 => 9 | 5 => 5 | 3 => 3 | n => n, fun | n => n⟩
theorem Tryz.lays137 : Go.Proofs.Lays.n137 Tryz.prog Tryz.lays137_ren := {
  mixed := by kernel_rfl
  f137 := Tryz.func34.trans (congrArg some (by kernel_rfl))
  f217 := Tryz.func50.trans (congrArg some (by kernel_rfl))
  f266 := Tryz.func64.trans (congrArg some (by kernel_rfl))
  t3 := Tryz.underlying3
  a3 := Tryz.isAgg3
  z3 := Tryz.sizeOf3
  v3 := Tryz.zeroValue3
  t5 := Tryz.underlying5
  a5 := Tryz.isAgg5
  z5 := Tryz.sizeOf5
  v5 := Tryz.zeroValue5
  t9 := Tryz.underlying9
  a9 := Tryz.isAgg9
  z9 := Tryz.sizeOf9
  v9 := Tryz.zeroValue9 }
open Go.RowKit in
/-- strings.IndexByte: "IndexByte returns the index of the first instance of c in s, or -1 if c is not present in s.": IT RETURNS 'Lib.indexByte s c'; the world is as it was. (LAID: no walk: one application.) -/
theorem Tryz.strings_IndexByte (s : ByteArray) (c : Int) (w : World) :
    Calls Tryz.prog 34 #[.string s, .int .u8 c] w fun e w' => e = .returned (.int .i64 (Lib.indexByte s.data.toList c.toNat.toUInt8)) ∧ w' = w := Any.strings_IndexByte Tryz.lays137 s c w
def Tryz.laysM171_ren : Go.Shelf.Ren := ⟨fun | 171 => 30 | 243 => 42 | 246 => 58 | 283 => 70 | 284 => 71 | 285 => 72 | 286 => 73 | 129 => 82 | 317 => 81 | 318 => 83 | 319 => 84 | 320 => 85 | 337 => 92 | 338 => 93 | n => n, fun | 3 => 3 | 9 => 9 | 2 => 2 | 4 => 4 | 171 => 96 | 0 => 0 | 53 => 97 | 37 => 39 | 5 => 5 | 173 => 100 | 212 => 110 | 51 => 111 | 20 => 20 | 213 => 112 | 46 => 114 | 232 => 130 | 233 => 131 | n => n, fun | 17 => 1 | 18 => 4 | 19 => 5 | n => n⟩
theorem Tryz.laysM171 : Go.Proofs.LaysM.n171 Tryz.prog Tryz.laysM171_ren := {
  mixed := by kernel_rfl
  f129 := Tryz.func82.trans (congrArg some (by kernel_rfl))
  f171 := Tryz.func30.trans (congrArg some (by kernel_rfl))
  f243 := Tryz.func42.trans (congrArg some (by kernel_rfl))
  f246 := Tryz.func58.trans (congrArg some (by kernel_rfl))
  f283 := Tryz.func70.trans (congrArg some (by kernel_rfl))
  f284 := Tryz.func71.trans (congrArg some (by kernel_rfl))
  f285 := Tryz.func72.trans (congrArg some (by kernel_rfl))
  f286 := Tryz.func73.trans (congrArg some (by kernel_rfl))
  f317 := Tryz.func81.trans (congrArg some (by kernel_rfl))
  f318 := Tryz.func83.trans (congrArg some (by kernel_rfl))
  f319 := Tryz.func84.trans (congrArg some (by kernel_rfl))
  f320 := Tryz.func85.trans (congrArg some (by kernel_rfl))
  f337 := Tryz.func92.trans (congrArg some (by kernel_rfl))
  f338 := Tryz.func93.trans (congrArg some (by kernel_rfl))
  t0 := Tryz.underlying0
  a0 := Tryz.isAgg0
  z0 := Tryz.sizeOf0
  v0 := Tryz.zeroValue0
  t2 := Tryz.underlying2
  a2 := Tryz.isAgg2
  z2 := Tryz.sizeOf2
  v2 := Tryz.zeroValue2
  t3 := Tryz.underlying3
  a3 := Tryz.isAgg3
  z3 := Tryz.sizeOf3
  v3 := Tryz.zeroValue3
  t4 := Tryz.underlying4
  a4 := Tryz.isAgg4
  z4 := Tryz.sizeOf4
  v4 := Tryz.zeroValue4
  t5 := Tryz.underlying5
  a5 := Tryz.isAgg5
  z5 := Tryz.sizeOf5
  v5 := Tryz.zeroValue5
  t9 := Tryz.underlying9
  a9 := Tryz.isAgg9
  z9 := Tryz.sizeOf9
  v9 := Tryz.zeroValue9
  t20 := Tryz.underlying20
  a20 := Tryz.isAgg20
  z20 := Tryz.sizeOf20
  v20 := Tryz.zeroValue20
  t37 := Tryz.underlying39
  a37 := Tryz.isAgg39
  z37 := Tryz.sizeOf39
  v37 := Tryz.zeroValue39
  t46 := Tryz.underlying114
  a46 := Tryz.isAgg114
  z46 := Tryz.sizeOf114
  v46 := Tryz.zeroValue114
  t51 := Tryz.underlying111
  a51 := Tryz.isAgg111
  z51 := Tryz.sizeOf111
  v51 := Tryz.zeroValue111
  t53 := Tryz.underlying97
  a53 := Tryz.isAgg97
  z53 := Tryz.sizeOf97
  v53 := Tryz.zeroValue97
  t171 := Tryz.underlying96
  a171 := Tryz.isAgg96
  z171 := Tryz.sizeOf96
  v171 := Tryz.zeroValue96
  t173 := Tryz.underlying100
  a173 := Tryz.isAgg100
  z173 := Tryz.sizeOf100
  v173 := Tryz.zeroValue100
  t212 := Tryz.underlying110
  a212 := Tryz.isAgg110
  z212 := Tryz.sizeOf110
  v212 := Tryz.zeroValue110
  t213 := Tryz.underlying112
  a213 := Tryz.isAgg112
  z213 := Tryz.sizeOf112
  t232 := Tryz.underlying130
  a232 := Tryz.isAgg130
  z232 := Tryz.sizeOf130
  v232 := Tryz.zeroValue130
  t233 := Tryz.underlying131
  a233 := Tryz.isAgg131
  z233 := Tryz.sizeOf131
  v233 := Tryz.zeroValue131
  g17 := by kernel_rfl
  g18 := by kernel_rfl
  g19 := by kernel_rfl
  i0 := by kernel_rfl
  i2 := by kernel_rfl
  i3 := by kernel_rfl
  i4 := by kernel_rfl
  i5 := by kernel_rfl
  i9 := by kernel_rfl
  i20 := by kernel_rfl
  i37 := by kernel_rfl
  i46 := by kernel_rfl
  i51 := by kernel_rfl
  i53 := by kernel_rfl
  i171 := by kernel_rfl
  i173 := by kernel_rfl
  i212 := by kernel_rfl
  i232 := by kernel_rfl
  i233 := by kernel_rfl
  m17 := by kernel_rfl
  m18 := by kernel_rfl
  m19 := by kernel_rfl }
open Go.RowKit Go.Sort Go.Lib in
/-- strconv.Itoa: "Itoa is equivalent to FormatInt(int64(i), 10).": i's DECIMAL NUMERAL ('Lib.itoa': a '-' where i is negative, then the digits), FOR EVERY int. The world behind the call: the world before it, new blocks behind the heap (the library's 'var a [24]byte'), draws. (LAID: no walk: one application.) -/
theorem Tryz.strconv_Itoa (n : Int) (h0 : -9223372036854775808 ≤ n) (h1 : n ≤ 9223372036854775807) (w : World) (htab : Lib.TabIs Tryz.prog w "internal/strconv.uint64pow10" .u64 Lib.pow10Tab) :
    Calls Tryz.prog 30 #[.int .i64 n] w fun e w' => e = .returned (.string ⟨(Lib.itoa n).toArray⟩) ∧ ∃ k os, w' = grow (w.drewN k) os := Any.strconv_Itoa Tryz.laysM171 n h0 h1 w htab
def Tryz.lays171_ren : Go.Shelf.Ren := ⟨fun | 171 => 30 | 243 => 42 | 246 => 58 | 283 => 70 | 284 => 71 | 285 => 72 | 286 => 73 | 129 => 82 | 317 => 81 | 318 => 83 | 319 => 84 | 320 => 85 | 337 => 92 | 338 => 93 | n => n, fun | 3 => 3 | 9 => 9 | 2 => 2 | 4 => 4 | 171 => 96 | 0 => 0 | 53 => 97 | 37 => 39 | 5 => 5 | 173 => 100 | 212 => 110 | 51 => 111 | 20 => 20 | 213 => 112 | 46 => 114 | 232 => 130 | 233 => 131 | n => n, fun | 17 => 1 | 18 => 4 | 19 => 5 | n => n⟩
theorem Tryz.lays171 : Go.Proofs.Lays.n171 Tryz.prog Tryz.lays171_ren := {
  mixed := by kernel_rfl
  f129 := Tryz.func82.trans (congrArg some (by kernel_rfl))
  f171 := Tryz.func30.trans (congrArg some (by kernel_rfl))
  f243 := Tryz.func42.trans (congrArg some (by kernel_rfl))
  f246 := Tryz.func58.trans (congrArg some (by kernel_rfl))
  f283 := Tryz.func70.trans (congrArg some (by kernel_rfl))
  f284 := Tryz.func71.trans (congrArg some (by kernel_rfl))
  f285 := Tryz.func72.trans (congrArg some (by kernel_rfl))
  f286 := Tryz.func73.trans (congrArg some (by kernel_rfl))
  f317 := Tryz.func81.trans (congrArg some (by kernel_rfl))
  f318 := Tryz.func83.trans (congrArg some (by kernel_rfl))
  f319 := Tryz.func84.trans (congrArg some (by kernel_rfl))
  f320 := Tryz.func85.trans (congrArg some (by kernel_rfl))
  f337 := Tryz.func92.trans (congrArg some (by kernel_rfl))
  f338 := Tryz.func93.trans (congrArg some (by kernel_rfl))
  t0 := Tryz.underlying0
  a0 := Tryz.isAgg0
  z0 := Tryz.sizeOf0
  v0 := Tryz.zeroValue0
  t2 := Tryz.underlying2
  a2 := Tryz.isAgg2
  z2 := Tryz.sizeOf2
  v2 := Tryz.zeroValue2
  t3 := Tryz.underlying3
  a3 := Tryz.isAgg3
  z3 := Tryz.sizeOf3
  v3 := Tryz.zeroValue3
  t4 := Tryz.underlying4
  a4 := Tryz.isAgg4
  z4 := Tryz.sizeOf4
  v4 := Tryz.zeroValue4
  t5 := Tryz.underlying5
  a5 := Tryz.isAgg5
  z5 := Tryz.sizeOf5
  v5 := Tryz.zeroValue5
  t9 := Tryz.underlying9
  a9 := Tryz.isAgg9
  z9 := Tryz.sizeOf9
  v9 := Tryz.zeroValue9
  t20 := Tryz.underlying20
  a20 := Tryz.isAgg20
  z20 := Tryz.sizeOf20
  v20 := Tryz.zeroValue20
  t37 := Tryz.underlying39
  a37 := Tryz.isAgg39
  z37 := Tryz.sizeOf39
  v37 := Tryz.zeroValue39
  t46 := Tryz.underlying114
  a46 := Tryz.isAgg114
  z46 := Tryz.sizeOf114
  v46 := Tryz.zeroValue114
  t51 := Tryz.underlying111
  a51 := Tryz.isAgg111
  z51 := Tryz.sizeOf111
  v51 := Tryz.zeroValue111
  t53 := Tryz.underlying97
  a53 := Tryz.isAgg97
  z53 := Tryz.sizeOf97
  v53 := Tryz.zeroValue97
  t171 := Tryz.underlying96
  a171 := Tryz.isAgg96
  z171 := Tryz.sizeOf96
  v171 := Tryz.zeroValue96
  t173 := Tryz.underlying100
  a173 := Tryz.isAgg100
  z173 := Tryz.sizeOf100
  v173 := Tryz.zeroValue100
  t212 := Tryz.underlying110
  a212 := Tryz.isAgg110
  z212 := Tryz.sizeOf110
  v212 := Tryz.zeroValue110
  t213 := Tryz.underlying112
  a213 := Tryz.isAgg112
  z213 := Tryz.sizeOf112
  t232 := Tryz.underlying130
  a232 := Tryz.isAgg130
  z232 := Tryz.sizeOf130
  v232 := Tryz.zeroValue130
  t233 := Tryz.underlying131
  a233 := Tryz.isAgg131
  z233 := Tryz.sizeOf131
  v233 := Tryz.zeroValue131
  g17 := by kernel_rfl
  g18 := by kernel_rfl
  g19 := by kernel_rfl }
open Go.RowKit Go.Sort Go.Lib in
/-- THE ROAD WITHOUT THE TABLE: 0 <= i < 100: NO PREMISE ON THE WORLD, AND THE WORLD IS AS IT WAS: a row that keeps its argument in that range need list no table ('laid = []'). (LAID: no walk: one application.) -/
theorem Tryz.strconv_Itoa_small (i : Nat) (hi : i < 100) (w : World) :
    Calls Tryz.prog 30 #[.int .i64 i] w fun e w' => e = .returned (.string ⟨(Lib.decDigits i).toArray⟩) ∧ w' = w := Any.strconv_Itoa_small Tryz.lays171 i hi w
def Tryz.laysC172_ren : Go.Shelf.Ren := ⟨fun | 172 => 78 | 244 => 89 | 245 => 90 | 247 => 94 | 279 => 95 | 280 => 96 | 281 => 97 | 282 => 98 | 287 => 100 | 316 => 101 | 171 => 30 | 205 => 102 | 321 => 104 | 322 => 105 | 243 => 42 | 246 => 58 | 283 => 70 | 284 => 71 | 285 => 72 | 286 => 73 | 129 => 82 | 317 => 81 | 318 => 83 | 319 => 84 | 320 => 85 | 337 => 92 | 338 => 93 | n => n, fun | 9 => 9 | 3 => 3 | 75 => 74 | 76 => 75 | 4 => 4 | 5 => 5 | 167 => 124 | 37 => 39 | 0 => 0 | 85 => 125 | 2 => 2 | 168 => 127 | 53 => 97 | 175 => 132 | 46 => 114 | 210 => 136 | 127 => 91 | 145 => 141 | 143 => 139 | 21 => 21 | 171 => 96 | 173 => 100 | 212 => 110 | 51 => 111 | 20 => 20 | 213 => 112 | 232 => 130 | 233 => 131 | 80 => 77 | n => n, fun | 15 => 6 | 16 => 7 | 17 => 1 | 18 => 4 | 19 => 5 | n => n⟩
theorem Tryz.laysC172 : Go.Proofs.LaysC.n172 Tryz.prog Tryz.laysC172_ren := {
  mixed := by kernel_rfl
  f129 := Tryz.func82.trans (congrArg some (by kernel_rfl))
  f171 := Tryz.func30.trans (congrArg some (by kernel_rfl))
  f172 := Tryz.func78.trans (congrArg some (by kernel_rfl))
  f205 := Tryz.func102.trans (congrArg some (by kernel_rfl))
  f243 := Tryz.func42.trans (congrArg some (by kernel_rfl))
  f244 := Tryz.func89.trans (congrArg some (by kernel_rfl))
  f245 := Tryz.func90.trans (congrArg some (by kernel_rfl))
  f246 := Tryz.func58.trans (congrArg some (by kernel_rfl))
  f247 := Tryz.func94.trans (congrArg some (by kernel_rfl))
  f279 := Tryz.func95.trans (congrArg some (by kernel_rfl))
  f280 := Tryz.func96.trans (congrArg some (by kernel_rfl))
  f281 := Tryz.func97.trans (congrArg some (by kernel_rfl))
  f282 := Tryz.func98.trans (congrArg some (by kernel_rfl))
  f283 := Tryz.func70.trans (congrArg some (by kernel_rfl))
  f284 := Tryz.func71.trans (congrArg some (by kernel_rfl))
  f285 := Tryz.func72.trans (congrArg some (by kernel_rfl))
  f286 := Tryz.func73.trans (congrArg some (by kernel_rfl))
  f287 := Tryz.func100.trans (congrArg some (by kernel_rfl))
  f316 := Tryz.func101.trans (congrArg some (by kernel_rfl))
  f317 := Tryz.func81.trans (congrArg some (by kernel_rfl))
  f318 := Tryz.func83.trans (congrArg some (by kernel_rfl))
  f319 := Tryz.func84.trans (congrArg some (by kernel_rfl))
  f320 := Tryz.func85.trans (congrArg some (by kernel_rfl))
  f321 := Tryz.func104.trans (congrArg some (by kernel_rfl))
  f322 := Tryz.func105.trans (congrArg some (by kernel_rfl))
  f337 := Tryz.func92.trans (congrArg some (by kernel_rfl))
  f338 := Tryz.func93.trans (congrArg some (by kernel_rfl))
  t0 := Tryz.underlying0
  a0 := Tryz.isAgg0
  z0 := Tryz.sizeOf0
  v0 := Tryz.zeroValue0
  t2 := Tryz.underlying2
  a2 := Tryz.isAgg2
  z2 := Tryz.sizeOf2
  v2 := Tryz.zeroValue2
  t3 := Tryz.underlying3
  a3 := Tryz.isAgg3
  z3 := Tryz.sizeOf3
  v3 := Tryz.zeroValue3
  t4 := Tryz.underlying4
  a4 := Tryz.isAgg4
  z4 := Tryz.sizeOf4
  v4 := Tryz.zeroValue4
  t5 := Tryz.underlying5
  a5 := Tryz.isAgg5
  z5 := Tryz.sizeOf5
  v5 := Tryz.zeroValue5
  t9 := Tryz.underlying9
  a9 := Tryz.isAgg9
  z9 := Tryz.sizeOf9
  v9 := Tryz.zeroValue9
  t20 := Tryz.underlying20
  a20 := Tryz.isAgg20
  z20 := Tryz.sizeOf20
  v20 := Tryz.zeroValue20
  t21 := Tryz.underlying21
  a21 := Tryz.isAgg21
  z21 := Tryz.sizeOf21
  v21 := Tryz.zeroValue21
  t37 := Tryz.underlying39
  a37 := Tryz.isAgg39
  z37 := Tryz.sizeOf39
  v37 := Tryz.zeroValue39
  t46 := Tryz.underlying114
  a46 := Tryz.isAgg114
  z46 := Tryz.sizeOf114
  v46 := Tryz.zeroValue114
  t51 := Tryz.underlying111
  a51 := Tryz.isAgg111
  z51 := Tryz.sizeOf111
  v51 := Tryz.zeroValue111
  t53 := Tryz.underlying97
  a53 := Tryz.isAgg97
  z53 := Tryz.sizeOf97
  v53 := Tryz.zeroValue97
  t75 := Tryz.underlying74
  a75 := Tryz.isAgg74
  z75 := Tryz.sizeOf74
  v75 := Tryz.zeroValue74
  t76 := Tryz.underlying75
  a76 := Tryz.isAgg75
  z76 := Tryz.sizeOf75
  v76 := Tryz.zeroValue75
  t85 := Tryz.underlying125
  a85 := Tryz.isAgg125
  z85 := Tryz.sizeOf125
  v85 := Tryz.zeroValue125
  t127 := Tryz.underlying91
  a127 := Tryz.isAgg91
  z127 := Tryz.sizeOf91
  v127 := Tryz.zeroValue91
  t143 := Tryz.underlying139
  a143 := Tryz.isAgg139
  z143 := Tryz.sizeOf139
  v143 := Tryz.zeroValue139
  t145 := Tryz.underlying141
  a145 := Tryz.isAgg141
  z145 := Tryz.sizeOf141
  v145 := Tryz.zeroValue141
  t167 := Tryz.underlying124
  a167 := Tryz.isAgg124
  z167 := Tryz.sizeOf124
  v167 := Tryz.zeroValue124
  t168 := Tryz.underlying127
  a168 := Tryz.isAgg127
  z168 := Tryz.sizeOf127
  v168 := Tryz.zeroValue127
  t171 := Tryz.underlying96
  a171 := Tryz.isAgg96
  z171 := Tryz.sizeOf96
  v171 := Tryz.zeroValue96
  t173 := Tryz.underlying100
  a173 := Tryz.isAgg100
  z173 := Tryz.sizeOf100
  v173 := Tryz.zeroValue100
  t175 := Tryz.underlying132
  a175 := Tryz.isAgg132
  z175 := Tryz.sizeOf132
  v175 := Tryz.zeroValue132
  t210 := Tryz.underlying136
  a210 := Tryz.isAgg136
  z210 := Tryz.sizeOf136
  v210 := Tryz.zeroValue136
  t212 := Tryz.underlying110
  a212 := Tryz.isAgg110
  z212 := Tryz.sizeOf110
  v212 := Tryz.zeroValue110
  t213 := Tryz.underlying112
  a213 := Tryz.isAgg112
  z213 := Tryz.sizeOf112
  t232 := Tryz.underlying130
  a232 := Tryz.isAgg130
  z232 := Tryz.sizeOf130
  v232 := Tryz.zeroValue130
  t233 := Tryz.underlying131
  a233 := Tryz.isAgg131
  z233 := Tryz.sizeOf131
  v233 := Tryz.zeroValue131
  g15 := by kernel_rfl
  g16 := by kernel_rfl
  g17 := by kernel_rfl
  g18 := by kernel_rfl
  g19 := by kernel_rfl
  t80 := Tryz.underlying77
  a80 := Tryz.isAgg77
  z80 := Tryz.sizeOf77
  v80 := Tryz.zeroValue77
  i0 := by kernel_rfl
  i2 := by kernel_rfl
  i3 := by kernel_rfl
  i4 := by kernel_rfl
  i5 := by kernel_rfl
  i9 := by kernel_rfl
  i20 := by kernel_rfl
  i21 := by kernel_rfl
  i37 := by kernel_rfl
  i46 := by kernel_rfl
  i51 := by kernel_rfl
  i53 := by kernel_rfl
  i75 := by kernel_rfl
  i76 := by kernel_rfl
  i80 := by kernel_rfl
  i85 := by kernel_rfl
  i127 := by kernel_rfl
  i143 := by kernel_rfl
  i145 := by kernel_rfl
  i167 := by kernel_rfl
  i168 := by kernel_rfl
  i171 := by kernel_rfl
  i173 := by kernel_rfl
  i175 := by kernel_rfl
  i210 := by kernel_rfl
  i212 := by kernel_rfl
  i232 := by kernel_rfl
  i233 := by kernel_rfl
  m15 := by kernel_rfl
  m16 := by kernel_rfl
  m17 := by kernel_rfl
  m18 := by kernel_rfl
  m19 := by kernel_rfl
  c0 := by kernel_rfl
  c2 := by kernel_rfl
  c3 := by kernel_rfl
  c4 := by kernel_rfl
  c5 := by kernel_rfl
  c9 := by kernel_rfl
  c20 := by kernel_rfl
  c21 := by kernel_rfl
  c37 := by kernel_rfl
  c46 := by kernel_rfl
  c51 := by kernel_rfl
  c53 := by kernel_rfl
  c75 := by kernel_rfl
  c76 := by kernel_rfl
  c80 := by kernel_rfl
  c85 := by kernel_rfl
  c127 := by kernel_rfl
  c143 := by kernel_rfl
  c145 := by kernel_rfl
  c167 := by kernel_rfl
  c168 := by kernel_rfl
  c171 := by kernel_rfl
  c173 := by kernel_rfl
  c175 := by kernel_rfl
  c210 := by kernel_rfl
  c212 := by kernel_rfl
  c213 := by kernel_rfl
  c232 := by kernel_rfl
  c233 := by kernel_rfl }
open Go.RowKit in
/-- strconv.Atoi, AT EVERY STRING THAT SPELLS AN int ('Lib.atoiAll .. = .ok v'; of whatever length: leading zeros count): v, AND NO ERROR. The world: as it was, or with the one new row that '[]byte(..)' lays. (LAID: no walk: one application.) -/
theorem Tryz.strconv_Atoi_ok (s : ByteArray) (hmax : s.size ≤ 9223372036854775806) (v : Int) (h : Lib.atoiAll s.data.toList = .ok v) (w : World) :
    Calls Tryz.prog 78 #[.string s] w fun e w' => e = .returned (.tuple #[.int .i64 v, .nilIface]) ∧ (w' = w ∨ ∃ t, w' = Lib.bytesWorld w 5 t) := Any.strconv_Atoi_ok Tryz.laysC172 s hmax v h w
open Go.RowKit in
/-- strconv.Atoi, AT EVERY STRING THAT IS NO DECIMAL NUMERAL ('.syntax'): 0, AND AN ERROR THAT IS NOT nil: a *NumError in a new block N: {Func: "Atoi", Num: s's bytes, Err: what the variable ErrSyntax holds}. Of what was there nothing has turned. (LAID: no walk: one application.) -/
theorem Tryz.strconv_Atoi_syntax (s : ByteArray) (hlim : s.size ≤ 281474976710656) (h0 : Lib.atoiAll s.data.toList ≠ .range ∧ ∀ v, Lib.atoiAll s.data.toList ≠ .ok v) (ev : Value) (w : World) (hv : w.cell? ⟨6, 0, none⟩ = some ev) (hev : ev = .nilIface ∨ ∃ te pe, ev = .iface te pe) :
    Calls Tryz.prog 78 #[.string s] w fun e w' => ∃ N, e = .returned (.tuple #[.int .i64 (0), .iface 127 (.pointer (some ⟨N, 0, none⟩))]) ∧ w.heap.size ≤ N ∧ w'.heap[N]? = some (.cells #[.string ⟨#[65, 116, 111, 105]⟩, .string s, ev] 136 (0, 0)) ∧ Below w.heap.size w w' := Any.strconv_Atoi_syntax Tryz.laysC172 s hlim (by
    rcases hc : Lib.atoiAll s.data.toList with v | _ | _
    · exact absurd hc (h0.2 v)
    · rfl
    · exact absurd hc h0.1) ev w hv hev
open Go.RowKit in
/-- strconv.Atoi, AT EVERY NUMERAL THAT NO int HOLDS ('.range'): THE GREATEST OR THE LEAST int, BY THE SIGN ('Lib.atoiSat'), AND AN ERROR THAT IS NOT nil: a *NumError in a new block N: {Func: "Atoi", Num: s's bytes, Err: what the variable ErrRange holds}. Of what was there nothing has turned. (LAID: no walk: one application.) -/
theorem Tryz.strconv_Atoi_range (s : ByteArray) (hlim : s.size ≤ 281474976710656) (h : Lib.atoiAll s.data.toList = .range) (ev : Value) (w : World) (hv : w.cell? ⟨7, 0, none⟩ = some ev) (hev : ev = .nilIface ∨ ∃ te pe, ev = .iface te pe) :
    Calls Tryz.prog 78 #[.string s] w fun e w' => ∃ N, e = .returned (.tuple #[.int .i64 (Lib.atoiSat s.data.toList), .iface 127 (.pointer (some ⟨N, 0, none⟩))]) ∧ w.heap.size ≤ N ∧ w'.heap[N]? = some (.cells #[.string ⟨#[65, 116, 111, 105]⟩, .string s, ev] 136 (0, 0)) ∧ Below w.heap.size w w' := Any.strconv_Atoi_range Tryz.laysC172 s hlim h ev w hv hev
def Tryz.lays219_ren : Go.Shelf.Ren := ⟨fun | 219 => 99 | 217 => 50 | 225 => 88 | 224 => 87 | 267 => 103 | 266 => 64 | 314 => 106 | n => n, fun | 9 => 9 | 3 => 3 | 4 => 4 | 5 => 5 | 46 => 114 | 146 => 142 | 51 => 111 | n => n, fun | 1 => 0 | n => n⟩
theorem Tryz.lays219 : Go.Proofs.Lays.n219 Tryz.prog Tryz.lays219_ren := {
  mixed := by kernel_rfl
  f217 := Tryz.func50.trans (congrArg some (by kernel_rfl))
  f219 := Tryz.func99.trans (congrArg some (by kernel_rfl))
  f224 := Tryz.func87.trans (congrArg some (by kernel_rfl))
  f225 := Tryz.func88.trans (congrArg some (by kernel_rfl))
  f266 := Tryz.func64.trans (congrArg some (by kernel_rfl))
  f267 := Tryz.func103.trans (congrArg some (by kernel_rfl))
  f314 := Tryz.func106.trans (congrArg some (by kernel_rfl))
  t3 := Tryz.underlying3
  a3 := Tryz.isAgg3
  z3 := Tryz.sizeOf3
  v3 := Tryz.zeroValue3
  t4 := Tryz.underlying4
  a4 := Tryz.isAgg4
  z4 := Tryz.sizeOf4
  v4 := Tryz.zeroValue4
  t5 := Tryz.underlying5
  a5 := Tryz.isAgg5
  z5 := Tryz.sizeOf5
  v5 := Tryz.zeroValue5
  t9 := Tryz.underlying9
  a9 := Tryz.isAgg9
  z9 := Tryz.sizeOf9
  v9 := Tryz.zeroValue9
  t46 := Tryz.underlying114
  a46 := Tryz.isAgg114
  z46 := Tryz.sizeOf114
  v46 := Tryz.zeroValue114
  t51 := Tryz.underlying111
  a51 := Tryz.isAgg111
  z51 := Tryz.sizeOf111
  v51 := Tryz.zeroValue111
  t146 := Tryz.underlying142
  a146 := Tryz.isAgg142
  z146 := Tryz.sizeOf142
  v146 := Tryz.zeroValue142
  g1 := by kernel_rfl }
open Go.RowKit Go.Lib in
/-- internal/stringslite.Index (what strings.Index calls) AT A substr OF ONE BYTE c: IT RETURNS 'Lib.indexByte s c'; the world is as it was. (LAID: no walk: one application.) -/
theorem Tryz.stringslite_Index_one (s : ByteArray) (c : UInt8) (w : World) :
    Calls Tryz.prog 99 #[.string s, .string ⟨#[c]⟩] w fun e w' => e = .returned (.int .i64 (Lib.indexByte s.data.toList c)) ∧ w' = w := Any.stringslite_Index_one Tryz.lays219 s c w
def Tryz.lays145_ren : Go.Shelf.Ren := ⟨fun | 145 => 79 | 220 => 91 | 219 => 99 | 217 => 50 | 225 => 88 | 224 => 87 | 267 => 103 | 266 => 64 | 314 => 106 | n => n, fun | 9 => 9 | 4 => 4 | 59 => 106 | 3 => 3 | 5 => 5 | 46 => 114 | 146 => 142 | 51 => 111 | n => n, fun | 1 => 0 | n => n⟩
theorem Tryz.lays145 : Go.Proofs.Lays.n145 Tryz.prog Tryz.lays145_ren := {
  mixed := by kernel_rfl
  f145 := Tryz.func79.trans (congrArg some (by kernel_rfl))
  f217 := Tryz.func50.trans (congrArg some (by kernel_rfl))
  f219 := Tryz.func99.trans (congrArg some (by kernel_rfl))
  f220 := Tryz.func91.trans (congrArg some (by kernel_rfl))
  f224 := Tryz.func87.trans (congrArg some (by kernel_rfl))
  f225 := Tryz.func88.trans (congrArg some (by kernel_rfl))
  f266 := Tryz.func64.trans (congrArg some (by kernel_rfl))
  f267 := Tryz.func103.trans (congrArg some (by kernel_rfl))
  f314 := Tryz.func106.trans (congrArg some (by kernel_rfl))
  t3 := Tryz.underlying3
  a3 := Tryz.isAgg3
  z3 := Tryz.sizeOf3
  v3 := Tryz.zeroValue3
  t4 := Tryz.underlying4
  a4 := Tryz.isAgg4
  z4 := Tryz.sizeOf4
  v4 := Tryz.zeroValue4
  t5 := Tryz.underlying5
  a5 := Tryz.isAgg5
  z5 := Tryz.sizeOf5
  v5 := Tryz.zeroValue5
  t9 := Tryz.underlying9
  a9 := Tryz.isAgg9
  z9 := Tryz.sizeOf9
  v9 := Tryz.zeroValue9
  t46 := Tryz.underlying114
  a46 := Tryz.isAgg114
  z46 := Tryz.sizeOf114
  v46 := Tryz.zeroValue114
  t51 := Tryz.underlying111
  a51 := Tryz.isAgg111
  z51 := Tryz.sizeOf111
  v51 := Tryz.zeroValue111
  t59 := Tryz.underlying106
  a59 := Tryz.isAgg106
  z59 := Tryz.sizeOf106
  v59 := Tryz.zeroValue106
  t146 := Tryz.underlying142
  a146 := Tryz.isAgg142
  z146 := Tryz.sizeOf142
  v146 := Tryz.zeroValue142
  g1 := by kernel_rfl }
open Go.RowKit Go.Lib in
/-- strings.Cut: "Cut slices s around the first instance of sep, returning the text before and after sep. The found result reports whether sep appears in s. If sep does not appear in s, cut returns s, "", false.": IT RETURNS 'Lib.cut s sep'; the world is as it was but for the count of draws. (LAID: no walk: one application.) -/
theorem Tryz.strings_Cut (s sep : ByteArray) (m : Int) (w : World) (hs : s.size < 4294967281) (hm : w.cell? ⟨0, 0, none⟩ = some (.int .i64 m)) :
    Calls Tryz.prog 79 #[.string s, .string sep] w fun e w' => e = .returned (.tuple #[.string ⟨(Lib.cut s.data.toList sep.data.toList).1.toArray⟩, .string ⟨(Lib.cut s.data.toList sep.data.toList).2.1.toArray⟩, .bool (Lib.cut s.data.toList sep.data.toList).2.2]) ∧ ∃ n, w' = w.drewN n := Any.strings_Cut Tryz.lays145 s sep m w hs hm
end Go.Proofs
