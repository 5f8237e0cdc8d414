/-
  DERIVED: THE SHELF's CONTRACTS AT THIS DUMP, IN PLAIN WORDS (tools/lay-plain.mjs out of 'TryShelf.lean', which tools/lay-shelf.mjs wrote): THE SAME DECLARATIONS UNDER THE SAME NAMES: 'import', 'namespace', 'open', 'def', 'theorem' AND NOTHING ELSE: no command of the shelf's: FOR A HAND-IN. Each laying: the table of numbers ('.._ren') and one theorem, a field a fact of the dump's own or the kernel's comparison; each contract: ONE APPLICATION.
-/
import Derived.Shelf.Small.Bits
import Derived.Shelf.Small.Strs
import Derived.Shelf.Strconv.Itoa0
import Derived.Shelf.Strings.Search1
import Derived.Shelf.Sort.Plain
import Derived.Shelf.Slices.In.SortNone
import Derived.Shelf.Bytes.SlEqualAll
import Derived.Shelf.Bytes.Small
import Derived.Test.YtekngjkjgmplpaaProg
namespace Go.Proofs
open Go.Shelf
def Try.lays106_ren : Go.Shelf.Ren := ⟨fun | 106 => 202 | 213 => 220 | 265 => 238 | n => n, fun | 9 => 9 | 3 => 3 | n => n, fun | n => n⟩
theorem Try.lays106 : Go.Proofs.Lays.n106 Try.prog Try.lays106_ren := {
  mixed := by kernel_rfl
  f106 := Try.func202.trans (congrArg some (by kernel_rfl))
  f213 := Try.func220.trans (congrArg some (by kernel_rfl))
  f265 := Try.func238.trans (congrArg some (by kernel_rfl))
  t3 := Try.underlying3
  a3 := Try.isAgg3
  z3 := Try.sizeOf3
  v3 := Try.zeroValue3
  t9 := Try.underlying9
  a9 := Try.isAgg9
  z9 := Try.sizeOf9
  v9 := Try.zeroValue9 }
open Go.RowKit in
/-- strings.Compare: "Compare returns an integer comparing two strings lexicographically. The result will be 0 if a == b, -1 if a < b, and +1 if a > b.": IT RETURNS 'Lib.compareBytes a b'; the world is as it was. (LAID: no walk: one application.) -/
theorem Try.strings_Compare (a b : ByteArray) (w : World) :
    Calls Try.prog 202 #[.string a, .string b] w fun e w' => e = .returned (.int .i64 (Lib.compareBytes a.data.toList b.data.toList)) ∧ w' = w := Any.strings_Compare Try.lays106 a b w
def Try.lays137_ren : Go.Shelf.Ren := ⟨fun | 137 => 192 | 217 => 209 | 266 => 232 | n => n, fun | 9 => 9 | 5 => 5 | 3 => 3 | n => n, fun | n => n⟩
theorem Try.lays137 : Go.Proofs.Lays.n137 Try.prog Try.lays137_ren := {
  mixed := by kernel_rfl
  f137 := Try.func192.trans (congrArg some (by kernel_rfl))
  f217 := Try.func209.trans (congrArg some (by kernel_rfl))
  f266 := Try.func232.trans (congrArg some (by kernel_rfl))
  t3 := Try.underlying3
  a3 := Try.isAgg3
  z3 := Try.sizeOf3
  v3 := Try.zeroValue3
  t5 := Try.underlying5
  a5 := Try.isAgg5
  z5 := Try.sizeOf5
  v5 := Try.zeroValue5
  t9 := Try.underlying9
  a9 := Try.isAgg9
  z9 := Try.sizeOf9
  v9 := Try.zeroValue9 }
open Go.RowKit in
/-- strings.IndexByte: "IndexByte returns the index of the first instance of c in s, or -1 if c is not present in s.": IT RETURNS 'Lib.indexByte s c'; the world is as it was. (LAID: no walk: one application.) -/
theorem Try.strings_IndexByte (s : ByteArray) (c : Int) (w : World) :
    Calls Try.prog 192 #[.string s, .int .u8 c] w fun e w' => e = .returned (.int .i64 (Lib.indexByte s.data.toList c.toNat.toUInt8)) ∧ w' = w := Any.strings_IndexByte Try.lays137 s c w
def Try.lays190_ren : Go.Shelf.Ren := ⟨fun | 190 => 253 | 125 => 208 | 258 => 260 | 128 => 230 | 129 => 231 | 302 => 262 | 303 => 263 | 304 => 264 | 305 => 265 | 306 => 266 | 307 => 267 | 308 => 268 | 309 => 269 | 310 => 270 | 333 => 271 | 329 => 240 | 330 => 241 | 334 => 272 | 335 => 273 | 336 => 274 | 344 => 275 | n => n, fun | 31 => 144 | 9 => 9 | 3 => 3 | 46 => 51 | 0 => 0 | 51 => 253 | 53 => 218 | 4 => 4 | 183 => 247 | 182 => 246 | 131 => 131 | 5 => 5 | 218 => 262 | 222 => 266 | 228 => 274 | 229 => 72 | n => n, fun | n => n⟩
theorem Try.lays190 : Go.Proofs.Lays.n190 Try.prog Try.lays190_ren := {
  mixed := by kernel_rfl
  f125 := Try.func208.trans (congrArg some (by kernel_rfl))
  f128 := Try.func230.trans (congrArg some (by kernel_rfl))
  f129 := Try.func231.trans (congrArg some (by kernel_rfl))
  f190 := Try.func253.trans (congrArg some (by kernel_rfl))
  f258 := Try.func260.trans (congrArg some (by kernel_rfl))
  f302 := Try.func262.trans (congrArg some (by kernel_rfl))
  f303 := Try.func263.trans (congrArg some (by kernel_rfl))
  f304 := Try.func264.trans (congrArg some (by kernel_rfl))
  f305 := Try.func265.trans (congrArg some (by kernel_rfl))
  f306 := Try.func266.trans (congrArg some (by kernel_rfl))
  f307 := Try.func267.trans (congrArg some (by kernel_rfl))
  f308 := Try.func268.trans (congrArg some (by kernel_rfl))
  f309 := Try.func269.trans (congrArg some (by kernel_rfl))
  f310 := Try.func270.trans (congrArg some (by kernel_rfl))
  f329 := Try.func240.trans (congrArg some (by kernel_rfl))
  f330 := Try.func241.trans (congrArg some (by kernel_rfl))
  f333 := Try.func271.trans (congrArg some (by kernel_rfl))
  f334 := Try.func272.trans (congrArg some (by kernel_rfl))
  f335 := Try.func273.trans (congrArg some (by kernel_rfl))
  f336 := Try.func274.trans (congrArg some (by kernel_rfl))
  f344 := Try.func275.trans (congrArg some (by kernel_rfl))
  t0 := Try.underlying0
  a0 := Try.isAgg0
  z0 := Try.sizeOf0
  v0 := Try.zeroValue0
  t3 := Try.underlying3
  a3 := Try.isAgg3
  z3 := Try.sizeOf3
  v3 := Try.zeroValue3
  t4 := Try.underlying4
  a4 := Try.isAgg4
  z4 := Try.sizeOf4
  v4 := Try.zeroValue4
  t5 := Try.underlying5
  a5 := Try.isAgg5
  z5 := Try.sizeOf5
  v5 := Try.zeroValue5
  t9 := Try.underlying9
  a9 := Try.isAgg9
  z9 := Try.sizeOf9
  v9 := Try.zeroValue9
  t31 := Try.underlying144
  a31 := Try.isAgg144
  z31 := Try.sizeOf144
  v31 := Try.zeroValue144
  t46 := Try.underlying51
  a46 := Try.isAgg51
  z46 := Try.sizeOf51
  v46 := Try.zeroValue51
  t51 := Try.underlying253
  a51 := Try.isAgg253
  z51 := Try.sizeOf253
  v51 := Try.zeroValue253
  t53 := Try.underlying218
  a53 := Try.isAgg218
  z53 := Try.sizeOf218
  v53 := Try.zeroValue218
  t131 := Try.underlying131
  a131 := Try.isAgg131
  z131 := Try.sizeOf131
  v131 := Try.zeroValue131
  t182 := Try.underlying246
  a182 := Try.isAgg246
  z182 := Try.sizeOf246
  v182 := Try.zeroValue246
  t183 := Try.underlying247
  a183 := Try.isAgg247
  z183 := Try.sizeOf247
  v183 := Try.zeroValue247
  t218 := Try.underlying262
  a218 := Try.isAgg262
  z218 := Try.sizeOf262
  v218 := Try.zeroValue262
  t222 := Try.underlying266
  a222 := Try.isAgg266
  z222 := Try.sizeOf266
  v222 := Try.zeroValue266
  t228 := Try.underlying274
  a228 := Try.isAgg274
  z228 := Try.sizeOf274
  v228 := Try.zeroValue274
  t229 := Try.underlying72
  a229 := Try.isAgg72
  z229 := Try.sizeOf72
  v229 := Try.zeroValue72 }
open Go.Sort Go.RowKit in
theorem Try.slices_Sort_string (blk off cap : Nat) (ss : List (List UInt8)) (w : World) (hH : Holds encStr w blk off ss.toArray) (hblk : blk < w.heap.size) (hsz : ss.length < 4611686018427387904) :
    Calls Try.prog 253 #[.slice (some ⟨blk, off, none⟩) ss.length cap] w fun e w' =>
      e = .returned (.tuple #[]) ∧ ∃ n os, w' = grow (putRow encStr (Sort.ahead w n) blk off (ss.mergeSort fun x y => decide (x ≤ y)).toArray) os := Any.slices_Sort_string Try.lays190 blk off cap ss w hH hblk hsz
open Go.RowKit Go.Sort in
/-- .. and plain. (LAID: no walk: one application.) -/
theorem Try.slices_Sort_string_none (p : Option Addr) (cap : Nat) (w : World) :
    Calls Try.prog 253 #[.slice p 0 cap] w fun e w' => e = .returned (.tuple #[]) ∧ w' = w := Any.slices_Sort_string_none Try.lays190 p cap w
end Go.Proofs
