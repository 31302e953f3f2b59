/-
  DERIVED: THE SHELF's CONTRACTS AT THIS DUMP, IN PLAIN WORDS (tools/lay-plain.mjs out of 'YtlceljfigccllaaShelf.lean', which tools/lay-shelf.mjs wrote): THE SAME DECLARATIONS UNDER THE SAME NAMES: 'import', 'namespace', 'open', 'def', 'theorem' AND NOTHING ELSE: no command of the shelf's: FOR A HAND-IN. Each laying: the table of numbers ('.._ren') and one theorem, a field a fact of the dump's own or the kernel's comparison; each contract: ONE APPLICATION.
-/
import Derived.Shelf.SlSortCmp.NoneTotal
import Derived.Shelf.Spec.SlicesGrow
import Derived.Test.YtlceljfigccllaaProg
namespace Go.Proofs
open Go.Shelf
def Try.sort132_ren : Go.Shelf.Ren := ⟨fun | 6 => 132 | 15 => 151 | 14 => 150 | 28 => 165 | 29 => 166 | 20 => 157 | 21 => 158 | 22 => 159 | 23 => 160 | 24 => 161 | 25 => 162 | 26 => 163 | 27 => 164 | 46 => 169 | 47 => 170 | 48 => 171 | 49 => 172 | 50 => 173 | 57 => 176 | n => n, fun | 22 => 145 | 24 => 149 | 25 => 187 | 3 => 3 | 39 => 196 | 0 => 0 | 53 => 207 | 55 => 209 | 4 => 4 | 46 => 200 | 45 => 199 | 50 => 204 | 5 => 5 | 9 => 9 | 66 => 211 | 70 => 215 | 76 => 217 | 77 => 218 | n => n, fun | n => n⟩
theorem Try.sort132 : Go.Proofs.SlLaysF0.n6 Try.prog Try.sort132_ren := {
  mixed := by kernel_rfl
  f6 := ⟨Try.f132.name, by decide, Try.func132.trans (congrArg some (by kernel_rfl))⟩
  f14 := ⟨Try.f150.name, by decide, Try.func150.trans (congrArg some (by kernel_rfl))⟩
  f15 := Try.func151.trans (congrArg some (by kernel_rfl))
  f20 := ⟨Try.f157.name, by decide, Try.func157.trans (congrArg some (by kernel_rfl))⟩
  f21 := ⟨Try.f158.name, by decide, Try.func158.trans (congrArg some (by kernel_rfl))⟩
  f22 := ⟨Try.f159.name, by decide, Try.func159.trans (congrArg some (by kernel_rfl))⟩
  f23 := ⟨Try.f160.name, by decide, Try.func160.trans (congrArg some (by kernel_rfl))⟩
  f24 := ⟨Try.f161.name, by decide, Try.func161.trans (congrArg some (by kernel_rfl))⟩
  f25 := ⟨Try.f162.name, by decide, Try.func162.trans (congrArg some (by kernel_rfl))⟩
  f26 := ⟨Try.f163.name, by decide, Try.func163.trans (congrArg some (by kernel_rfl))⟩
  f27 := ⟨Try.f164.name, by decide, Try.func164.trans (congrArg some (by kernel_rfl))⟩
  f28 := Try.func165.trans (congrArg some (by kernel_rfl))
  f29 := Try.func166.trans (congrArg some (by kernel_rfl))
  f46 := ⟨Try.f169.name, by decide, Try.func169.trans (congrArg some (by kernel_rfl))⟩
  f47 := Try.func170.trans (congrArg some (by kernel_rfl))
  f48 := Try.func171.trans (congrArg some (by kernel_rfl))
  f49 := ⟨Try.f172.name, by decide, Try.func172.trans (congrArg some (by kernel_rfl))⟩
  f50 := ⟨Try.f173.name, by decide, Try.func173.trans (congrArg some (by kernel_rfl))⟩
  f57 := ⟨Try.f176.name, by decide, Try.func176.trans (congrArg some (by kernel_rfl))⟩
  t0 := Try.underlying0
  a0 := Try.isAgg0
  z0 := Try.sizeOf0
  v0 := Try.zeroValue0
  t3 := Try.underlying3
  a3 := Try.isAgg3
  z3 := Try.sizeOf3
  v3 := Try.zeroValue3
  t4 := Try.underlying4
  a4 := Try.isAgg4
  z4 := Try.sizeOf4
  v4 := Try.zeroValue4
  t5 := Try.underlying5
  a5 := Try.isAgg5
  z5 := Try.sizeOf5
  v5 := Try.zeroValue5
  t9 := Try.underlying9
  a9 := Try.isAgg9
  z9 := Try.sizeOf9
  v9 := Try.zeroValue9
  t22 := Try.underlying145
  a22 := Try.isAgg145
  z22 := Try.sizeOf145
  v22 := Try.zeroValue145
  t25 := Try.underlying187
  a25 := Try.isAgg187
  z25 := Try.sizeOf187
  v25 := Try.zeroValue187
  t39 := Try.underlying196
  a39 := Try.isAgg196
  z39 := Try.sizeOf196
  v39 := Try.zeroValue196
  t45 := Try.underlying199
  a45 := Try.isAgg199
  z45 := Try.sizeOf199
  v45 := Try.zeroValue199
  t46 := Try.underlying200
  a46 := Try.isAgg200
  z46 := Try.sizeOf200
  v46 := Try.zeroValue200
  t50 := Try.underlying204
  a50 := Try.isAgg204
  z50 := Try.sizeOf204
  v50 := Try.zeroValue204
  t53 := Try.underlying207
  a53 := Try.isAgg207
  z53 := Try.sizeOf207
  v53 := Try.zeroValue207
  t55 := Try.underlying209
  a55 := Try.isAgg209
  z55 := Try.sizeOf209
  v55 := Try.zeroValue209
  t66 := Try.underlying211
  a66 := Try.isAgg211
  z66 := Try.sizeOf211
  v66 := Try.zeroValue211
  t70 := Try.underlying215
  a70 := Try.isAgg215
  z70 := Try.sizeOf215
  v70 := Try.zeroValue215
  t76 := Try.underlying217
  a76 := Try.isAgg217
  z76 := Try.sizeOf217
  v76 := Try.zeroValue217
  t77 := Try.underlying218
  a77 := Try.isAgg218
  z77 := Try.sizeOf218
  v77 := Try.zeroValue218 }
end Go.Proofs
