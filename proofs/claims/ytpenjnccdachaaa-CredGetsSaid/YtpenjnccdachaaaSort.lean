/-
  DERIVED: THE SHELF's CONTRACTS AT THIS DUMP, IN PLAIN WORDS (tools/lay-plain.mjs out of 'TrySort.lean', which tools/lay-shelf.mjs wrote): THE SAME DECLARATIONS UNDER THE SAME NAMES: 'import', 'namespace', 'open', 'def', 'theorem' AND NOTHING ELSE: no command of the shelf's: FOR A HAND-IN. Each laying: the table of numbers ('.._ren') and one theorem, a field a fact of the dump's own or the kernel's comparison; each contract: ONE APPLICATION.
-/
import Derived.Shelf.SlSortCmp.NoneTotal
import Derived.Test.YtpenjnccdachaaaProg
namespace Go.Proofs
open Go.Shelf
def Try.sortRole_ren : Go.Shelf.Ren := ⟨fun | 6 => 120 | 15 => 145 | 14 => 152 | 28 => 171 | 29 => 172 | 20 => 175 | 21 => 176 | 22 => 177 | 23 => 178 | 24 => 179 | 25 => 180 | 26 => 181 | 27 => 182 | 46 => 202 | 47 => 194 | 48 => 195 | 49 => 203 | 50 => 204 | 57 => 215 | n => n, fun | 22 => 37 | 24 => 79 | 25 => 83 | 3 => 3 | 39 => 159 | 0 => 0 | 53 => 189 | 55 => 156 | 4 => 4 | 46 => 181 | 45 => 180 | 50 => 186 | 5 => 5 | 9 => 9 | 66 => 201 | 70 => 205 | 76 => 212 | 77 => 213 | n => n, fun | n => n⟩
theorem Try.sortRole : Go.Proofs.SlLaysF0.n6 Try.prog Try.sortRole_ren := {
  mixed := by kernel_rfl
  f6 := ⟨Try.f120.name, by decide, Try.func120.trans (congrArg some (by kernel_rfl))⟩
  f14 := ⟨Try.f152.name, by decide, Try.func152.trans (congrArg some (by kernel_rfl))⟩
  f15 := Try.func145.trans (congrArg some (by kernel_rfl))
  f20 := ⟨Try.f175.name, by decide, Try.func175.trans (congrArg some (by kernel_rfl))⟩
  f21 := ⟨Try.f176.name, by decide, Try.func176.trans (congrArg some (by kernel_rfl))⟩
  f22 := ⟨Try.f177.name, by decide, Try.func177.trans (congrArg some (by kernel_rfl))⟩
  f23 := ⟨Try.f178.name, by decide, Try.func178.trans (congrArg some (by kernel_rfl))⟩
  f24 := ⟨Try.f179.name, by decide, Try.func179.trans (congrArg some (by kernel_rfl))⟩
  f25 := ⟨Try.f180.name, by decide, Try.func180.trans (congrArg some (by kernel_rfl))⟩
  f26 := ⟨Try.f181.name, by decide, Try.func181.trans (congrArg some (by kernel_rfl))⟩
  f27 := ⟨Try.f182.name, by decide, Try.func182.trans (congrArg some (by kernel_rfl))⟩
  f28 := Try.func171.trans (congrArg some (by kernel_rfl))
  f29 := Try.func172.trans (congrArg some (by kernel_rfl))
  f46 := ⟨Try.f202.name, by decide, Try.func202.trans (congrArg some (by kernel_rfl))⟩
  f47 := Try.func194.trans (congrArg some (by kernel_rfl))
  f48 := Try.func195.trans (congrArg some (by kernel_rfl))
  f49 := ⟨Try.f203.name, by decide, Try.func203.trans (congrArg some (by kernel_rfl))⟩
  f50 := ⟨Try.f204.name, by decide, Try.func204.trans (congrArg some (by kernel_rfl))⟩
  f57 := ⟨Try.f215.name, by decide, Try.func215.trans (congrArg some (by kernel_rfl))⟩
  t0 := Try.underlying0
  a0 := Try.isAgg0
  z0 := Try.sizeOf0
  v0 := Try.zeroValue0
  t3 := Try.underlying3
  a3 := Try.isAgg3
  z3 := Try.sizeOf3
  v3 := Try.zeroValue3
  t4 := Try.underlying4
  a4 := Try.isAgg4
  z4 := Try.sizeOf4
  v4 := Try.zeroValue4
  t5 := Try.underlying5
  a5 := Try.isAgg5
  z5 := Try.sizeOf5
  v5 := Try.zeroValue5
  t9 := Try.underlying9
  a9 := Try.isAgg9
  z9 := Try.sizeOf9
  v9 := Try.zeroValue9
  t22 := Try.underlying37
  a22 := Try.isAgg37
  z22 := Try.sizeOf37
  v22 := Try.zeroValue37
  t25 := Try.underlying83
  a25 := Try.isAgg83
  z25 := Try.sizeOf83
  v25 := Try.zeroValue83
  t39 := Try.underlying159
  a39 := Try.isAgg159
  z39 := Try.sizeOf159
  v39 := Try.zeroValue159
  t45 := Try.underlying180
  a45 := Try.isAgg180
  z45 := Try.sizeOf180
  v45 := Try.zeroValue180
  t46 := Try.underlying181
  a46 := Try.isAgg181
  z46 := Try.sizeOf181
  v46 := Try.zeroValue181
  t50 := Try.underlying186
  a50 := Try.isAgg186
  z50 := Try.sizeOf186
  v50 := Try.zeroValue186
  t53 := Try.underlying189
  a53 := Try.isAgg189
  z53 := Try.sizeOf189
  v53 := Try.zeroValue189
  t55 := Try.underlying156
  a55 := Try.isAgg156
  z55 := Try.sizeOf156
  v55 := Try.zeroValue156
  t66 := Try.underlying201
  a66 := Try.isAgg201
  z66 := Try.sizeOf201
  v66 := Try.zeroValue201
  t70 := Try.underlying205
  a70 := Try.isAgg205
  z70 := Try.sizeOf205
  v70 := Try.zeroValue205
  t76 := Try.underlying212
  a76 := Try.isAgg212
  z76 := Try.sizeOf212
  v76 := Try.zeroValue212
  t77 := Try.underlying213
  a77 := Try.isAgg213
  z77 := Try.sizeOf213
  v77 := Try.zeroValue213 }
end Go.Proofs
