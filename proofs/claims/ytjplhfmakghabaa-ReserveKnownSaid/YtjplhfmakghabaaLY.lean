/-
  DERIVED: THE SHELF's CONTRACTS AT THIS DUMP, IN PLAIN WORDS (tools/lay-plain.mjs out of 'YtjplhfmakghabaaLY0.lean', which tools/lay-shelf.mjs wrote): THE SAME DECLARATIONS UNDER THE SAME NAMES: 'import', 'namespace', 'open', 'def', 'theorem' AND NOTHING ELSE: no command of the shelf's: FOR A HAND-IN. Each laying: the table of numbers ('.._ren') and one theorem, a field a fact of the dump's own or the kernel's comparison; each contract: ONE APPLICATION.
-/
import Derived.Shelf.SlGeneric
import Derived.Shelf.SortG.Plain
import Derived.Shelf.SortG.SortNone
import Derived.Ground.SlgnProg
import Derived.Test.YtjplhfmakghabaaProg
namespace Go.Proofs
open Go.Shelf
def Try.sortInt_ren : Go.Shelf.Ren := ⟨fun | 53 => 91 | 64 => 100 | 63 => 99 | 78 => 113 | 79 => 114 | 70 => 105 | 71 => 106 | 72 => 107 | 73 => 108 | 74 => 109 | 75 => 110 | 59 => 96 | 76 => 111 | 77 => 112 | 88 => 119 | 89 => 120 | 90 => 121 | 91 => 122 | 92 => 123 | 68 => 95 | 96 => 125 | n => n, fun | 22 => 47 | 23 => 3 | 3 => 3 | 51 => 125 | 0 => 0 | 67 => 138 | 69 => 140 | 4 => 4 | 61 => 132 | 60 => 131 | 44 => 117 | 5 => 5 | 9 => 9 | 75 => 144 | 79 => 148 | 83 => 152 | 84 => 153 | n => n, fun | n => n⟩
theorem Try.sortInt : Go.Proofs.SlLaysN.n53 Try.prog Try.sortInt_ren := {
  mixed := by kernel_rfl
  f53 := ⟨Try.f91.name, by decide, Try.func91.trans (congrArg some (by kernel_rfl))⟩
  f59 := ⟨Try.f96.name, by decide, Try.func96.trans (congrArg some (by kernel_rfl))⟩
  f63 := ⟨Try.f99.name, by decide, Try.func99.trans (congrArg some (by kernel_rfl))⟩
  f64 := Try.func100.trans (congrArg some (by kernel_rfl))
  f68 := ⟨Try.f95.name, by decide, Try.func95.trans (congrArg some (by kernel_rfl))⟩
  f70 := ⟨Try.f105.name, by decide, Try.func105.trans (congrArg some (by kernel_rfl))⟩
  f71 := ⟨Try.f106.name, by decide, Try.func106.trans (congrArg some (by kernel_rfl))⟩
  f72 := ⟨Try.f107.name, by decide, Try.func107.trans (congrArg some (by kernel_rfl))⟩
  f73 := ⟨Try.f108.name, by decide, Try.func108.trans (congrArg some (by kernel_rfl))⟩
  f74 := ⟨Try.f109.name, by decide, Try.func109.trans (congrArg some (by kernel_rfl))⟩
  f75 := ⟨Try.f110.name, by decide, Try.func110.trans (congrArg some (by kernel_rfl))⟩
  f76 := ⟨Try.f111.name, by decide, Try.func111.trans (congrArg some (by kernel_rfl))⟩
  f77 := ⟨Try.f112.name, by decide, Try.func112.trans (congrArg some (by kernel_rfl))⟩
  f78 := Try.func113.trans (congrArg some (by kernel_rfl))
  f79 := Try.func114.trans (congrArg some (by kernel_rfl))
  f88 := ⟨Try.f119.name, by decide, Try.func119.trans (congrArg some (by kernel_rfl))⟩
  f89 := Try.func120.trans (congrArg some (by kernel_rfl))
  f90 := Try.func121.trans (congrArg some (by kernel_rfl))
  f91 := ⟨Try.f122.name, by decide, Try.func122.trans (congrArg some (by kernel_rfl))⟩
  f92 := ⟨Try.f123.name, by decide, Try.func123.trans (congrArg some (by kernel_rfl))⟩
  f96 := ⟨Try.f125.name, by decide, Try.func125.trans (congrArg some (by kernel_rfl))⟩
  t0 := Try.underlying0
  a0 := Try.isAgg0
  z0 := Try.sizeOf0
  v0 := Try.zeroValue0
  t3 := Try.underlying3
  a3 := Try.isAgg3
  z3 := Try.sizeOf3
  v3 := Try.zeroValue3
  t4 := Try.underlying4
  a4 := Try.isAgg4
  z4 := Try.sizeOf4
  v4 := Try.zeroValue4
  t5 := Try.underlying5
  a5 := Try.isAgg5
  z5 := Try.sizeOf5
  v5 := Try.zeroValue5
  t9 := Try.underlying9
  a9 := Try.isAgg9
  z9 := Try.sizeOf9
  v9 := Try.zeroValue9
  t22 := Try.underlying47
  a22 := Try.isAgg47
  z22 := Try.sizeOf47
  v22 := Try.zeroValue47
  t23 := Try.underlying3
  a23 := Try.isAgg3
  z23 := Try.sizeOf3
  v23 := Try.zeroValue3
  t44 := Try.underlying117
  a44 := Try.isAgg117
  z44 := Try.sizeOf117
  v44 := Try.zeroValue117
  t51 := Try.underlying125
  a51 := Try.isAgg125
  z51 := Try.sizeOf125
  v51 := Try.zeroValue125
  t60 := Try.underlying131
  a60 := Try.isAgg131
  z60 := Try.sizeOf131
  v60 := Try.zeroValue131
  t61 := Try.underlying132
  a61 := Try.isAgg132
  z61 := Try.sizeOf132
  v61 := Try.zeroValue132
  t67 := Try.underlying138
  a67 := Try.isAgg138
  z67 := Try.sizeOf138
  v67 := Try.zeroValue138
  t69 := Try.underlying140
  a69 := Try.isAgg140
  z69 := Try.sizeOf140
  v69 := Try.zeroValue140
  t75 := Try.underlying144
  a75 := Try.isAgg144
  z75 := Try.sizeOf144
  v75 := Try.zeroValue144
  t79 := Try.underlying148
  a79 := Try.isAgg148
  z79 := Try.sizeOf148
  v79 := Try.zeroValue148
  t83 := Try.underlying152
  a83 := Try.isAgg152
  z83 := Try.sizeOf152
  v83 := Try.zeroValue152
  t84 := Try.underlying153
  a84 := Try.isAgg153
  z84 := Try.sizeOf153
  v84 := Try.zeroValue153 }
end Go.Proofs
