/-
  DERIVED: THE SHELF's CONTRACTS AT THIS DUMP, IN PLAIN WORDS (tools/lay-plain.mjs out of 'YtpaoepcebcjfhaaDoorShelf0.lean', which tools/lay-shelf.mjs wrote): THE SAME DECLARATIONS UNDER THE SAME NAMES: 'import', 'namespace', 'open', 'def', 'theorem' AND NOTHING ELSE: no command of the shelf's: FOR A HAND-IN. Each laying: the table of numbers ('.._ren') and one theorem, a field a fact of the dump's own or the kernel's comparison; each contract: ONE APPLICATION.
-/
import Derived.Shelf.SlSortCmp.NoneTotal
import Derived.Shelf.SlicesG.CompactI
import Derived.Shelf.SlGeneric
import Derived.Ground.SlsfProg
import Derived.Ground.SlgnProg
import Derived.Test.YtpaoepcebcjfhaaDoorProg
namespace Go.Proofs
open Go.Shelf
def Tryd.sortI_ren : Go.Shelf.Ren := ⟨fun | 6 => 32 | 15 => 46 | 14 => 45 | 28 => 58 | 29 => 59 | 20 => 50 | 21 => 51 | 22 => 52 | 23 => 53 | 24 => 54 | 25 => 55 | 26 => 56 | 27 => 57 | 46 => 62 | 47 => 63 | 48 => 64 | 49 => 65 | 50 => 66 | 57 => 69 | n => n, fun | 22 => 22 | 24 => 3 | 25 => 63 | 3 => 3 | 39 => 45 | 0 => 0 | 53 => 95 | 55 => 97 | 4 => 4 | 46 => 88 | 45 => 87 | 50 => 92 | 5 => 5 | 9 => 9 | 66 => 98 | 70 => 102 | 76 => 107 | 77 => 108 | n => n, fun | n => n⟩
theorem Tryd.sortI : Go.Proofs.SlLaysF.n6 Tryd.prog Tryd.sortI_ren := {
  mixed := by kernel_rfl
  f6 := ⟨Tryd.f32.name, by decide, Tryd.func32.trans (congrArg some (by kernel_rfl))⟩
  f14 := ⟨Tryd.f45.name, by decide, Tryd.func45.trans (congrArg some (by kernel_rfl))⟩
  f15 := Tryd.func46.trans (congrArg some (by kernel_rfl))
  f20 := ⟨Tryd.f50.name, by decide, Tryd.func50.trans (congrArg some (by kernel_rfl))⟩
  f21 := ⟨Tryd.f51.name, by decide, Tryd.func51.trans (congrArg some (by kernel_rfl))⟩
  f22 := ⟨Tryd.f52.name, by decide, Tryd.func52.trans (congrArg some (by kernel_rfl))⟩
  f23 := ⟨Tryd.f53.name, by decide, Tryd.func53.trans (congrArg some (by kernel_rfl))⟩
  f24 := ⟨Tryd.f54.name, by decide, Tryd.func54.trans (congrArg some (by kernel_rfl))⟩
  f25 := ⟨Tryd.f55.name, by decide, Tryd.func55.trans (congrArg some (by kernel_rfl))⟩
  f26 := ⟨Tryd.f56.name, by decide, Tryd.func56.trans (congrArg some (by kernel_rfl))⟩
  f27 := ⟨Tryd.f57.name, by decide, Tryd.func57.trans (congrArg some (by kernel_rfl))⟩
  f28 := Tryd.func58.trans (congrArg some (by kernel_rfl))
  f29 := Tryd.func59.trans (congrArg some (by kernel_rfl))
  f46 := ⟨Tryd.f62.name, by decide, Tryd.func62.trans (congrArg some (by kernel_rfl))⟩
  f47 := Tryd.func63.trans (congrArg some (by kernel_rfl))
  f48 := Tryd.func64.trans (congrArg some (by kernel_rfl))
  f49 := ⟨Tryd.f65.name, by decide, Tryd.func65.trans (congrArg some (by kernel_rfl))⟩
  f50 := ⟨Tryd.f66.name, by decide, Tryd.func66.trans (congrArg some (by kernel_rfl))⟩
  f57 := ⟨Tryd.f69.name, by decide, Tryd.func69.trans (congrArg some (by kernel_rfl))⟩
  t0 := Tryd.underlying0
  a0 := Tryd.isAgg0
  z0 := Tryd.sizeOf0
  v0 := Tryd.zeroValue0
  t3 := Tryd.underlying3
  a3 := Tryd.isAgg3
  z3 := Tryd.sizeOf3
  v3 := Tryd.zeroValue3
  t4 := Tryd.underlying4
  a4 := Tryd.isAgg4
  z4 := Tryd.sizeOf4
  v4 := Tryd.zeroValue4
  t5 := Tryd.underlying5
  a5 := Tryd.isAgg5
  z5 := Tryd.sizeOf5
  v5 := Tryd.zeroValue5
  t9 := Tryd.underlying9
  a9 := Tryd.isAgg9
  z9 := Tryd.sizeOf9
  v9 := Tryd.zeroValue9
  t22 := Tryd.underlying22
  a22 := Tryd.isAgg22
  z22 := Tryd.sizeOf22
  v22 := Tryd.zeroValue22
  a24 := Tryd.isAgg3
  z24 := Tryd.sizeOf3
  t25 := Tryd.underlying63
  a25 := Tryd.isAgg63
  z25 := Tryd.sizeOf63
  v25 := Tryd.zeroValue63
  t39 := Tryd.underlying45
  a39 := Tryd.isAgg45
  z39 := Tryd.sizeOf45
  v39 := Tryd.zeroValue45
  t45 := Tryd.underlying87
  a45 := Tryd.isAgg87
  z45 := Tryd.sizeOf87
  v45 := Tryd.zeroValue87
  t46 := Tryd.underlying88
  a46 := Tryd.isAgg88
  z46 := Tryd.sizeOf88
  v46 := Tryd.zeroValue88
  t50 := Tryd.underlying92
  a50 := Tryd.isAgg92
  z50 := Tryd.sizeOf92
  v50 := Tryd.zeroValue92
  t53 := Tryd.underlying95
  a53 := Tryd.isAgg95
  z53 := Tryd.sizeOf95
  v53 := Tryd.zeroValue95
  t55 := Tryd.underlying97
  a55 := Tryd.isAgg97
  z55 := Tryd.sizeOf97
  v55 := Tryd.zeroValue97
  t66 := Tryd.underlying98
  a66 := Tryd.isAgg98
  z66 := Tryd.sizeOf98
  v66 := Tryd.zeroValue98
  t70 := Tryd.underlying102
  a70 := Tryd.isAgg102
  z70 := Tryd.sizeOf102
  v70 := Tryd.zeroValue102
  t76 := Tryd.underlying107
  a76 := Tryd.isAgg107
  z76 := Tryd.sizeOf107
  v76 := Tryd.zeroValue107
  t77 := Tryd.underlying108
  a77 := Tryd.isAgg108
  z77 := Tryd.sizeOf108
  v77 := Tryd.zeroValue108 }
def Tryd.compI_ren : Go.Shelf.Ren := ⟨fun | 43 => 35 | n => n, fun | 22 => 22 | 23 => 3 | 3 => 3 | 4 => 4 | 0 => 0 | n => n, fun | n => n⟩
theorem Tryd.compI : Go.Proofs.SlLaysN.n43 Tryd.prog Tryd.compI_ren := {
  mixed := by kernel_rfl
  f43 := ⟨Tryd.f35.name, by decide, Tryd.func35.trans (congrArg some (by kernel_rfl))⟩
  t0 := Tryd.underlying0
  a0 := Tryd.isAgg0
  z0 := Tryd.sizeOf0
  v0 := Tryd.zeroValue0
  t3 := Tryd.underlying3
  a3 := Tryd.isAgg3
  z3 := Tryd.sizeOf3
  v3 := Tryd.zeroValue3
  t4 := Tryd.underlying4
  a4 := Tryd.isAgg4
  z4 := Tryd.sizeOf4
  v4 := Tryd.zeroValue4
  t22 := Tryd.underlying22
  a22 := Tryd.isAgg22
  z22 := Tryd.sizeOf22
  v22 := Tryd.zeroValue22
  t23 := Tryd.underlying3
  a23 := Tryd.isAgg3
  z23 := Tryd.sizeOf3
  v23 := Tryd.zeroValue3
  i23 := by kernel_rfl }
end Go.Proofs
