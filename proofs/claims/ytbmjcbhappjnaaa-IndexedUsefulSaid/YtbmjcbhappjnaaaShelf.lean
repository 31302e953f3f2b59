/-
  DERIVED: THE SHELF's CONTRACTS AT THIS DUMP, IN PLAIN WORDS (tools/lay-plain.mjs out of 'YtbmjcbhappjnaaaShelf.lean', which tools/lay-shelf.mjs wrote): THE SAME DECLARATIONS UNDER THE SAME NAMES: 'import', 'namespace', 'open', 'def', 'theorem' AND NOTHING ELSE: no command of the shelf's: FOR A HAND-IN. Each laying: the table of numbers ('.._ren') and one theorem, a field a fact of the dump's own or the kernel's comparison; each contract: ONE APPLICATION.
-/
import Derived.Shelf.SlSortCmp.NoneTotal
import Derived.Shelf.Spec.SlicesGrow
import Derived.Test.YtbmjcbhappjnaaaProg
namespace Go.Proofs
open Go.Shelf
def Try.sort139_ren : Go.Shelf.Ren := ⟨fun | 6 => 139 | 15 => 137 | 14 => 157 | 28 => 155 | 29 => 156 | 20 => 163 | 21 => 164 | 22 => 165 | 23 => 166 | 24 => 167 | 25 => 168 | 26 => 169 | 27 => 170 | 46 => 172 | 47 => 159 | 48 => 160 | 49 => 173 | 50 => 174 | 57 => 175 | n => n, fun | 22 => 185 | 24 => 189 | 25 => 208 | 3 => 3 | 39 => 205 | 0 => 0 | 53 => 219 | 55 => 221 | 4 => 4 | 46 => 212 | 45 => 211 | 50 => 216 | 5 => 5 | 9 => 9 | 66 => 223 | 70 => 227 | 76 => 234 | 77 => 235 | n => n, fun | n => n⟩
theorem Try.sort139 : Go.Proofs.SlLaysF0.n6 Try.prog Try.sort139_ren := {
  mixed := by kernel_rfl
  f6 := ⟨Try.f139.name, by decide, Try.func139.trans (congrArg some (by kernel_rfl))⟩
  f14 := ⟨Try.f157.name, by decide, Try.func157.trans (congrArg some (by kernel_rfl))⟩
  f15 := Try.func137.trans (congrArg some (by kernel_rfl))
  f20 := ⟨Try.f163.name, by decide, Try.func163.trans (congrArg some (by kernel_rfl))⟩
  f21 := ⟨Try.f164.name, by decide, Try.func164.trans (congrArg some (by kernel_rfl))⟩
  f22 := ⟨Try.f165.name, by decide, Try.func165.trans (congrArg some (by kernel_rfl))⟩
  f23 := ⟨Try.f166.name, by decide, Try.func166.trans (congrArg some (by kernel_rfl))⟩
  f24 := ⟨Try.f167.name, by decide, Try.func167.trans (congrArg some (by kernel_rfl))⟩
  f25 := ⟨Try.f168.name, by decide, Try.func168.trans (congrArg some (by kernel_rfl))⟩
  f26 := ⟨Try.f169.name, by decide, Try.func169.trans (congrArg some (by kernel_rfl))⟩
  f27 := ⟨Try.f170.name, by decide, Try.func170.trans (congrArg some (by kernel_rfl))⟩
  f28 := Try.func155.trans (congrArg some (by kernel_rfl))
  f29 := Try.func156.trans (congrArg some (by kernel_rfl))
  f46 := ⟨Try.f172.name, by decide, Try.func172.trans (congrArg some (by kernel_rfl))⟩
  f47 := Try.func159.trans (congrArg some (by kernel_rfl))
  f48 := Try.func160.trans (congrArg some (by kernel_rfl))
  f49 := ⟨Try.f173.name, by decide, Try.func173.trans (congrArg some (by kernel_rfl))⟩
  f50 := ⟨Try.f174.name, by decide, Try.func174.trans (congrArg some (by kernel_rfl))⟩
  f57 := ⟨Try.f175.name, by decide, Try.func175.trans (congrArg some (by kernel_rfl))⟩
  t0 := Try.underlying0
  a0 := Try.isAgg0
  z0 := Try.sizeOf0
  v0 := Try.zeroValue0
  t3 := Try.underlying3
  a3 := Try.isAgg3
  z3 := Try.sizeOf3
  v3 := Try.zeroValue3
  t4 := Try.underlying4
  a4 := Try.isAgg4
  z4 := Try.sizeOf4
  v4 := Try.zeroValue4
  t5 := Try.underlying5
  a5 := Try.isAgg5
  z5 := Try.sizeOf5
  v5 := Try.zeroValue5
  t9 := Try.underlying9
  a9 := Try.isAgg9
  z9 := Try.sizeOf9
  v9 := Try.zeroValue9
  t22 := Try.underlying185
  a22 := Try.isAgg185
  z22 := Try.sizeOf185
  v22 := Try.zeroValue185
  t25 := Try.underlying208
  a25 := Try.isAgg208
  z25 := Try.sizeOf208
  v25 := Try.zeroValue208
  t39 := Try.underlying205
  a39 := Try.isAgg205
  z39 := Try.sizeOf205
  v39 := Try.zeroValue205
  t45 := Try.underlying211
  a45 := Try.isAgg211
  z45 := Try.sizeOf211
  v45 := Try.zeroValue211
  t46 := Try.underlying212
  a46 := Try.isAgg212
  z46 := Try.sizeOf212
  v46 := Try.zeroValue212
  t50 := Try.underlying216
  a50 := Try.isAgg216
  z50 := Try.sizeOf216
  v50 := Try.zeroValue216
  t53 := Try.underlying219
  a53 := Try.isAgg219
  z53 := Try.sizeOf219
  v53 := Try.zeroValue219
  t55 := Try.underlying221
  a55 := Try.isAgg221
  z55 := Try.sizeOf221
  v55 := Try.zeroValue221
  t66 := Try.underlying223
  a66 := Try.isAgg223
  z66 := Try.sizeOf223
  v66 := Try.zeroValue223
  t70 := Try.underlying227
  a70 := Try.isAgg227
  z70 := Try.sizeOf227
  v70 := Try.zeroValue227
  t76 := Try.underlying234
  a76 := Try.isAgg234
  z76 := Try.sizeOf234
  v76 := Try.zeroValue234
  t77 := Try.underlying235
  a77 := Try.isAgg235
  z77 := Try.sizeOf235
  v77 := Try.zeroValue235 }
end Go.Proofs
