/-
  DERIVED: THE SHELF's CONTRACTS AT THIS DUMP, IN PLAIN WORDS (tools/lay-plain.mjs out of 'TrySort.lean', which tools/lay-shelf.mjs wrote): THE SAME DECLARATIONS UNDER THE SAME NAMES: 'import', 'namespace', 'open', 'def', 'theorem' AND NOTHING ELSE: no command of the shelf's: FOR A HAND-IN. Each laying: the table of numbers ('.._ren') and one theorem, a field a fact of the dump's own or the kernel's comparison; each contract: ONE APPLICATION.
-/
import Derived.Shelf.SlSortCmp.NoneTotal
import Derived.Test.YtekngjkjgmplpaaProg
namespace Go.Proofs
open Go.Shelf
def Try.sortRole_ren : Go.Shelf.Ren := ⟨fun | 6 => 213 | 15 => 208 | 14 => 234 | 28 => 230 | 29 => 231 | 20 => 244 | 21 => 245 | 22 => 246 | 23 => 247 | 24 => 248 | 25 => 249 | 26 => 250 | 27 => 251 | 46 => 256 | 47 => 240 | 48 => 241 | 49 => 257 | 50 => 258 | 57 => 261 | n => n, fun | 22 => 109 | 24 => 30 | 25 => 202 | 3 => 3 | 39 => 51 | 0 => 0 | 53 => 253 | 55 => 218 | 4 => 4 | 46 => 247 | 45 => 246 | 50 => 131 | 5 => 5 | 9 => 9 | 66 => 262 | 70 => 266 | 76 => 274 | 77 => 72 | n => n, fun | n => n⟩
theorem Try.sortRole : Go.Proofs.SlLaysF0.n6 Try.prog Try.sortRole_ren := {
  mixed := by kernel_rfl
  f6 := ⟨Try.f213.name, by decide, Try.func213.trans (congrArg some (by kernel_rfl))⟩
  f14 := ⟨Try.f234.name, by decide, Try.func234.trans (congrArg some (by kernel_rfl))⟩
  f15 := Try.func208.trans (congrArg some (by kernel_rfl))
  f20 := ⟨Try.f244.name, by decide, Try.func244.trans (congrArg some (by kernel_rfl))⟩
  f21 := ⟨Try.f245.name, by decide, Try.func245.trans (congrArg some (by kernel_rfl))⟩
  f22 := ⟨Try.f246.name, by decide, Try.func246.trans (congrArg some (by kernel_rfl))⟩
  f23 := ⟨Try.f247.name, by decide, Try.func247.trans (congrArg some (by kernel_rfl))⟩
  f24 := ⟨Try.f248.name, by decide, Try.func248.trans (congrArg some (by kernel_rfl))⟩
  f25 := ⟨Try.f249.name, by decide, Try.func249.trans (congrArg some (by kernel_rfl))⟩
  f26 := ⟨Try.f250.name, by decide, Try.func250.trans (congrArg some (by kernel_rfl))⟩
  f27 := ⟨Try.f251.name, by decide, Try.func251.trans (congrArg some (by kernel_rfl))⟩
  f28 := Try.func230.trans (congrArg some (by kernel_rfl))
  f29 := Try.func231.trans (congrArg some (by kernel_rfl))
  f46 := ⟨Try.f256.name, by decide, Try.func256.trans (congrArg some (by kernel_rfl))⟩
  f47 := Try.func240.trans (congrArg some (by kernel_rfl))
  f48 := Try.func241.trans (congrArg some (by kernel_rfl))
  f49 := ⟨Try.f257.name, by decide, Try.func257.trans (congrArg some (by kernel_rfl))⟩
  f50 := ⟨Try.f258.name, by decide, Try.func258.trans (congrArg some (by kernel_rfl))⟩
  f57 := ⟨Try.f261.name, by decide, Try.func261.trans (congrArg some (by kernel_rfl))⟩
  t0 := Try.underlying0
  a0 := Try.isAgg0
  z0 := Try.sizeOf0
  v0 := Try.zeroValue0
  t3 := Try.underlying3
  a3 := Try.isAgg3
  z3 := Try.sizeOf3
  v3 := Try.zeroValue3
  t4 := Try.underlying4
  a4 := Try.isAgg4
  z4 := Try.sizeOf4
  v4 := Try.zeroValue4
  t5 := Try.underlying5
  a5 := Try.isAgg5
  z5 := Try.sizeOf5
  v5 := Try.zeroValue5
  t9 := Try.underlying9
  a9 := Try.isAgg9
  z9 := Try.sizeOf9
  v9 := Try.zeroValue9
  t22 := Try.underlying109
  a22 := Try.isAgg109
  z22 := Try.sizeOf109
  v22 := Try.zeroValue109
  t25 := Try.underlying202
  a25 := Try.isAgg202
  z25 := Try.sizeOf202
  v25 := Try.zeroValue202
  t39 := Try.underlying51
  a39 := Try.isAgg51
  z39 := Try.sizeOf51
  v39 := Try.zeroValue51
  t45 := Try.underlying246
  a45 := Try.isAgg246
  z45 := Try.sizeOf246
  v45 := Try.zeroValue246
  t46 := Try.underlying247
  a46 := Try.isAgg247
  z46 := Try.sizeOf247
  v46 := Try.zeroValue247
  t50 := Try.underlying131
  a50 := Try.isAgg131
  z50 := Try.sizeOf131
  v50 := Try.zeroValue131
  t53 := Try.underlying253
  a53 := Try.isAgg253
  z53 := Try.sizeOf253
  v53 := Try.zeroValue253
  t55 := Try.underlying218
  a55 := Try.isAgg218
  z55 := Try.sizeOf218
  v55 := Try.zeroValue218
  t66 := Try.underlying262
  a66 := Try.isAgg262
  z66 := Try.sizeOf262
  v66 := Try.zeroValue262
  t70 := Try.underlying266
  a70 := Try.isAgg266
  z70 := Try.sizeOf266
  v70 := Try.zeroValue266
  t76 := Try.underlying274
  a76 := Try.isAgg274
  z76 := Try.sizeOf274
  v76 := Try.zeroValue274
  t77 := Try.underlying72
  a77 := Try.isAgg72
  z77 := Try.sizeOf72
  v77 := Try.zeroValue72 }
end Go.Proofs
