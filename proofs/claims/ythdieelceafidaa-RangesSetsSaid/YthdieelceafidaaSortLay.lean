/-
  DERIVED: THE SHELF's CONTRACTS AT THIS DUMP, IN PLAIN WORDS (tools/lay-plain.mjs out of 'YthdieelceafidaaShelf.lean', which tools/lay-shelf.mjs wrote): THE SAME DECLARATIONS UNDER THE SAME NAMES: 'import', 'namespace', 'open', 'def', 'theorem' AND NOTHING ELSE: no command of the shelf's: FOR A HAND-IN. Each laying: the table of numbers ('.._ren') and one theorem, a field a fact of the dump's own or the kernel's comparison; each contract: ONE APPLICATION.
-/
import Derived.Shelf.SlSortCmp.NoneTotal
import Derived.Ground.SlsfProg
import Derived.Test.YthdieelceafidaaProg
namespace Go.Proofs
open Go.Shelf
def Try.sortL_ren : Go.Shelf.Ren := ⟨fun | 6 => 25 | 15 => 35 | 14 => 34 | 28 => 45 | 29 => 46 | 20 => 37 | 21 => 38 | 22 => 39 | 23 => 40 | 24 => 41 | 25 => 42 | 26 => 43 | 27 => 44 | 46 => 47 | 47 => 48 | 48 => 49 | 49 => 50 | 50 => 51 | 57 => 52 | n => n, fun | 22 => 22 | 24 => 24 | 25 => 37 | 3 => 3 | 39 => 42 | 0 => 0 | 53 => 53 | 55 => 29 | 4 => 4 | 46 => 46 | 45 => 45 | 50 => 50 | 5 => 5 | 9 => 9 | 66 => 55 | 70 => 59 | 76 => 61 | 77 => 62 | n => n, fun | n => n⟩
theorem Try.sortL : Go.Proofs.SlLaysF0.n6 Try.prog Try.sortL_ren := {
  mixed := by kernel_rfl
  f6 := ⟨Try.f25.name, by decide, Try.func25.trans (congrArg some (by kernel_rfl))⟩
  f14 := ⟨Try.f34.name, by decide, Try.func34.trans (congrArg some (by kernel_rfl))⟩
  f15 := Try.func35.trans (congrArg some (by kernel_rfl))
  f20 := ⟨Try.f37.name, by decide, Try.func37.trans (congrArg some (by kernel_rfl))⟩
  f21 := ⟨Try.f38.name, by decide, Try.func38.trans (congrArg some (by kernel_rfl))⟩
  f22 := ⟨Try.f39.name, by decide, Try.func39.trans (congrArg some (by kernel_rfl))⟩
  f23 := ⟨Try.f40.name, by decide, Try.func40.trans (congrArg some (by kernel_rfl))⟩
  f24 := ⟨Try.f41.name, by decide, Try.func41.trans (congrArg some (by kernel_rfl))⟩
  f25 := ⟨Try.f42.name, by decide, Try.func42.trans (congrArg some (by kernel_rfl))⟩
  f26 := ⟨Try.f43.name, by decide, Try.func43.trans (congrArg some (by kernel_rfl))⟩
  f27 := ⟨Try.f44.name, by decide, Try.func44.trans (congrArg some (by kernel_rfl))⟩
  f28 := Try.func45.trans (congrArg some (by kernel_rfl))
  f29 := Try.func46.trans (congrArg some (by kernel_rfl))
  f46 := ⟨Try.f47.name, by decide, Try.func47.trans (congrArg some (by kernel_rfl))⟩
  f47 := Try.func48.trans (congrArg some (by kernel_rfl))
  f48 := Try.func49.trans (congrArg some (by kernel_rfl))
  f49 := ⟨Try.f50.name, by decide, Try.func50.trans (congrArg some (by kernel_rfl))⟩
  f50 := ⟨Try.f51.name, by decide, Try.func51.trans (congrArg some (by kernel_rfl))⟩
  f57 := ⟨Try.f52.name, by decide, Try.func52.trans (congrArg some (by kernel_rfl))⟩
  t0 := Try.underlying0
  a0 := Try.isAgg0
  z0 := Try.sizeOf0
  v0 := Try.zeroValue0
  t3 := Try.underlying3
  a3 := Try.isAgg3
  z3 := Try.sizeOf3
  v3 := Try.zeroValue3
  t4 := Try.underlying4
  a4 := Try.isAgg4
  z4 := Try.sizeOf4
  v4 := Try.zeroValue4
  t5 := Try.underlying5
  a5 := Try.isAgg5
  z5 := Try.sizeOf5
  v5 := Try.zeroValue5
  t9 := Try.underlying9
  a9 := Try.isAgg9
  z9 := Try.sizeOf9
  v9 := Try.zeroValue9
  t22 := Try.underlying22
  a22 := Try.isAgg22
  z22 := Try.sizeOf22
  v22 := Try.zeroValue22
  t25 := Try.underlying37
  a25 := Try.isAgg37
  z25 := Try.sizeOf37
  v25 := Try.zeroValue37
  t39 := Try.underlying42
  a39 := Try.isAgg42
  z39 := Try.sizeOf42
  v39 := Try.zeroValue42
  t45 := Try.underlying45
  a45 := Try.isAgg45
  z45 := Try.sizeOf45
  v45 := Try.zeroValue45
  t46 := Try.underlying46
  a46 := Try.isAgg46
  z46 := Try.sizeOf46
  v46 := Try.zeroValue46
  t50 := Try.underlying50
  a50 := Try.isAgg50
  z50 := Try.sizeOf50
  v50 := Try.zeroValue50
  t53 := Try.underlying53
  a53 := Try.isAgg53
  z53 := Try.sizeOf53
  v53 := Try.zeroValue53
  t55 := Try.underlying29
  a55 := Try.isAgg29
  z55 := Try.sizeOf29
  v55 := Try.zeroValue29
  t66 := Try.underlying55
  a66 := Try.isAgg55
  z66 := Try.sizeOf55
  v66 := Try.zeroValue55
  t70 := Try.underlying59
  a70 := Try.isAgg59
  z70 := Try.sizeOf59
  v70 := Try.zeroValue59
  t76 := Try.underlying61
  a76 := Try.isAgg61
  z76 := Try.sizeOf61
  v76 := Try.zeroValue61
  t77 := Try.underlying62
  a77 := Try.isAgg62
  z77 := Try.sizeOf62
  v77 := Try.zeroValue62 }
end Go.Proofs
