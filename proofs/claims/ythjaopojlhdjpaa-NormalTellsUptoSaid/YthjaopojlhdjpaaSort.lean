/-
  DERIVED: THE SHELF's CONTRACTS AT THIS DUMP, IN PLAIN WORDS (tools/lay-plain.mjs out of 'TrySort.lean', which tools/lay-shelf.mjs wrote): THE SAME DECLARATIONS UNDER THE SAME NAMES: 'import', 'namespace', 'open', 'def', 'theorem' AND NOTHING ELSE: no command of the shelf's: FOR A HAND-IN. Each laying: the table of numbers ('.._ren') and one theorem, a field a fact of the dump's own or the kernel's comparison; each contract: ONE APPLICATION.
-/
import Derived.Shelf.SlSortCmp.NoneTotal
import Derived.Test.YthjaopojlhdjpaaProg
namespace Go.Proofs
open Go.Shelf
def Try.sortRole_ren : Go.Shelf.Ren := ⟨fun | 6 => 97 | 15 => 105 | 14 => 128 | 28 => 139 | 29 => 140 | 20 => 153 | 21 => 154 | 22 => 155 | 23 => 156 | 24 => 157 | 25 => 158 | 26 => 159 | 27 => 160 | 46 => 173 | 47 => 163 | 48 => 164 | 49 => 174 | 50 => 175 | 57 => 182 | n => n, fun | 22 => 37 | 24 => 23 | 25 => 132 | 3 => 3 | 39 => 137 | 0 => 0 | 53 => 167 | 55 => 169 | 4 => 4 | 46 => 160 | 45 => 159 | 50 => 164 | 5 => 5 | 9 => 9 | 66 => 183 | 70 => 118 | 76 => 195 | 77 => 109 | n => n, fun | n => n⟩
theorem Try.sortRole : Go.Proofs.SlLaysF0.n6 Try.prog Try.sortRole_ren := {
  mixed := by kernel_rfl
  f6 := ⟨Try.f97.name, by decide, Try.func97.trans (congrArg some (by kernel_rfl))⟩
  f14 := ⟨Try.f128.name, by decide, Try.func128.trans (congrArg some (by kernel_rfl))⟩
  f15 := Try.func105.trans (congrArg some (by kernel_rfl))
  f20 := ⟨Try.f153.name, by decide, Try.func153.trans (congrArg some (by kernel_rfl))⟩
  f21 := ⟨Try.f154.name, by decide, Try.func154.trans (congrArg some (by kernel_rfl))⟩
  f22 := ⟨Try.f155.name, by decide, Try.func155.trans (congrArg some (by kernel_rfl))⟩
  f23 := ⟨Try.f156.name, by decide, Try.func156.trans (congrArg some (by kernel_rfl))⟩
  f24 := ⟨Try.f157.name, by decide, Try.func157.trans (congrArg some (by kernel_rfl))⟩
  f25 := ⟨Try.f158.name, by decide, Try.func158.trans (congrArg some (by kernel_rfl))⟩
  f26 := ⟨Try.f159.name, by decide, Try.func159.trans (congrArg some (by kernel_rfl))⟩
  f27 := ⟨Try.f160.name, by decide, Try.func160.trans (congrArg some (by kernel_rfl))⟩
  f28 := Try.func139.trans (congrArg some (by kernel_rfl))
  f29 := Try.func140.trans (congrArg some (by kernel_rfl))
  f46 := ⟨Try.f173.name, by decide, Try.func173.trans (congrArg some (by kernel_rfl))⟩
  f47 := Try.func163.trans (congrArg some (by kernel_rfl))
  f48 := Try.func164.trans (congrArg some (by kernel_rfl))
  f49 := ⟨Try.f174.name, by decide, Try.func174.trans (congrArg some (by kernel_rfl))⟩
  f50 := ⟨Try.f175.name, by decide, Try.func175.trans (congrArg some (by kernel_rfl))⟩
  f57 := ⟨Try.f182.name, by decide, Try.func182.trans (congrArg some (by kernel_rfl))⟩
  t0 := Try.underlying0
  a0 := Try.isAgg0
  z0 := Try.sizeOf0
  v0 := Try.zeroValue0
  t3 := Try.underlying3
  a3 := Try.isAgg3
  z3 := Try.sizeOf3
  v3 := Try.zeroValue3
  t4 := Try.underlying4
  a4 := Try.isAgg4
  z4 := Try.sizeOf4
  v4 := Try.zeroValue4
  t5 := Try.underlying5
  a5 := Try.isAgg5
  z5 := Try.sizeOf5
  v5 := Try.zeroValue5
  t9 := Try.underlying9
  a9 := Try.isAgg9
  z9 := Try.sizeOf9
  v9 := Try.zeroValue9
  t22 := Try.underlying37
  a22 := Try.isAgg37
  z22 := Try.sizeOf37
  v22 := Try.zeroValue37
  t25 := Try.underlying132
  a25 := Try.isAgg132
  z25 := Try.sizeOf132
  v25 := Try.zeroValue132
  t39 := Try.underlying137
  a39 := Try.isAgg137
  z39 := Try.sizeOf137
  v39 := Try.zeroValue137
  t45 := Try.underlying159
  a45 := Try.isAgg159
  z45 := Try.sizeOf159
  v45 := Try.zeroValue159
  t46 := Try.underlying160
  a46 := Try.isAgg160
  z46 := Try.sizeOf160
  v46 := Try.zeroValue160
  t50 := Try.underlying164
  a50 := Try.isAgg164
  z50 := Try.sizeOf164
  v50 := Try.zeroValue164
  t53 := Try.underlying167
  a53 := Try.isAgg167
  z53 := Try.sizeOf167
  v53 := Try.zeroValue167
  t55 := Try.underlying169
  a55 := Try.isAgg169
  z55 := Try.sizeOf169
  v55 := Try.zeroValue169
  t66 := Try.underlying183
  a66 := Try.isAgg183
  z66 := Try.sizeOf183
  v66 := Try.zeroValue183
  t70 := Try.underlying118
  a70 := Try.isAgg118
  z70 := Try.sizeOf118
  v70 := Try.zeroValue118
  t76 := Try.underlying195
  a76 := Try.isAgg195
  z76 := Try.sizeOf195
  v76 := Try.zeroValue195
  t77 := Try.underlying109
  a77 := Try.isAgg109
  z77 := Try.sizeOf109
  v77 := Try.zeroValue109 }
end Go.Proofs
