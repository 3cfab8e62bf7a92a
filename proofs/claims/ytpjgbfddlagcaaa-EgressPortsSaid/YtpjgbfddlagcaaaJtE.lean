/-
  DERIVED: THE SHELF's CONTRACTS AT THIS DUMP, IN PLAIN WORDS (tools/lay-plain.mjs out of 'TrysrtShelf.lean', which tools/lay-shelf.mjs wrote): THE SAME DECLARATIONS UNDER THE SAME NAMES: 'import', 'namespace', 'open', 'def', 'theorem' AND NOTHING ELSE: no command of the shelf's: FOR A HAND-IN. Each laying: the table of numbers ('.._ren') and one theorem, a field a fact of the dump's own or the kernel's comparison; each contract: ONE APPLICATION.
-/
import Derived.Shelf.SlGeneric
import Derived.Shelf.SlSortCmp.NoneTotal
import Derived.Ground.SlsfProg
import Derived.Test.YtpjgbfddlagcaaaProg
namespace Go.Proofs
open Go.Shelf
def Try.sortE_ren : Go.Shelf.Ren := ⟨fun | 6 => 47 | 15 => 55 | 14 => 54 | 28 => 68 | 29 => 69 | 20 => 60 | 21 => 61 | 22 => 62 | 23 => 63 | 24 => 64 | 25 => 65 | 26 => 66 | 27 => 67 | 46 => 71 | 47 => 72 | 48 => 73 | 49 => 74 | 50 => 75 | 57 => 76 | n => n, fun | 22 => 102 | 24 => 45 | 25 => 108 | 3 => 3 | 39 => 109 | 0 => 0 | 53 => 33 | 55 => 41 | 4 => 4 | 46 => 125 | 45 => 124 | 50 => 65 | 5 => 5 | 9 => 9 | 66 => 134 | 70 => 137 | 76 => 139 | 77 => 140 | n => n, fun | n => n⟩
theorem Try.sortE : Go.Proofs.SlLaysF0.n6 Try.prog Try.sortE_ren := {
  mixed := by kernel_rfl
  f6 := ⟨Try.f47.name, by decide, Try.func47.trans (congrArg some (by kernel_rfl))⟩
  f14 := ⟨Try.f54.name, by decide, Try.func54.trans (congrArg some (by kernel_rfl))⟩
  f15 := Try.func55.trans (congrArg some (by kernel_rfl))
  f20 := ⟨Try.f60.name, by decide, Try.func60.trans (congrArg some (by kernel_rfl))⟩
  f21 := ⟨Try.f61.name, by decide, Try.func61.trans (congrArg some (by kernel_rfl))⟩
  f22 := ⟨Try.f62.name, by decide, Try.func62.trans (congrArg some (by kernel_rfl))⟩
  f23 := ⟨Try.f63.name, by decide, Try.func63.trans (congrArg some (by kernel_rfl))⟩
  f24 := ⟨Try.f64.name, by decide, Try.func64.trans (congrArg some (by kernel_rfl))⟩
  f25 := ⟨Try.f65.name, by decide, Try.func65.trans (congrArg some (by kernel_rfl))⟩
  f26 := ⟨Try.f66.name, by decide, Try.func66.trans (congrArg some (by kernel_rfl))⟩
  f27 := ⟨Try.f67.name, by decide, Try.func67.trans (congrArg some (by kernel_rfl))⟩
  f28 := Try.func68.trans (congrArg some (by kernel_rfl))
  f29 := Try.func69.trans (congrArg some (by kernel_rfl))
  f46 := ⟨Try.f71.name, by decide, Try.func71.trans (congrArg some (by kernel_rfl))⟩
  f47 := Try.func72.trans (congrArg some (by kernel_rfl))
  f48 := Try.func73.trans (congrArg some (by kernel_rfl))
  f49 := ⟨Try.f74.name, by decide, Try.func74.trans (congrArg some (by kernel_rfl))⟩
  f50 := ⟨Try.f75.name, by decide, Try.func75.trans (congrArg some (by kernel_rfl))⟩
  f57 := ⟨Try.f76.name, by decide, Try.func76.trans (congrArg some (by kernel_rfl))⟩
  t0 := Try.underlying0
  a0 := Try.isAgg0
  z0 := Try.sizeOf0
  v0 := Try.zeroValue0
  t3 := Try.underlying3
  a3 := Try.isAgg3
  z3 := Try.sizeOf3
  v3 := Try.zeroValue3
  t4 := Try.underlying4
  a4 := Try.isAgg4
  z4 := Try.sizeOf4
  v4 := Try.zeroValue4
  t5 := Try.underlying5
  a5 := Try.isAgg5
  z5 := Try.sizeOf5
  v5 := Try.zeroValue5
  t9 := Try.underlying9
  a9 := Try.isAgg9
  z9 := Try.sizeOf9
  v9 := Try.zeroValue9
  t22 := Try.underlying102
  a22 := Try.isAgg102
  z22 := Try.sizeOf102
  v22 := Try.zeroValue102
  t25 := Try.underlying108
  a25 := Try.isAgg108
  z25 := Try.sizeOf108
  v25 := Try.zeroValue108
  t39 := Try.underlying109
  a39 := Try.isAgg109
  z39 := Try.sizeOf109
  v39 := Try.zeroValue109
  t45 := Try.underlying124
  a45 := Try.isAgg124
  z45 := Try.sizeOf124
  v45 := Try.zeroValue124
  t46 := Try.underlying125
  a46 := Try.isAgg125
  z46 := Try.sizeOf125
  v46 := Try.zeroValue125
  t50 := Try.underlying65
  a50 := Try.isAgg65
  z50 := Try.sizeOf65
  v50 := Try.zeroValue65
  t53 := Try.underlying33
  a53 := Try.isAgg33
  z53 := Try.sizeOf33
  v53 := Try.zeroValue33
  t55 := Try.underlying41
  a55 := Try.isAgg41
  z55 := Try.sizeOf41
  v55 := Try.zeroValue41
  t66 := Try.underlying134
  a66 := Try.isAgg134
  z66 := Try.sizeOf134
  v66 := Try.zeroValue134
  t70 := Try.underlying137
  a70 := Try.isAgg137
  z70 := Try.sizeOf137
  v70 := Try.zeroValue137
  t76 := Try.underlying139
  a76 := Try.isAgg139
  z76 := Try.sizeOf139
  v76 := Try.zeroValue139
  t77 := Try.underlying140
  a77 := Try.isAgg140
  z77 := Try.sizeOf140
  v77 := Try.zeroValue140 }
end Go.Proofs
