/-
  DERIVED: THE SHELF's CONTRACTS AT THIS DUMP, IN PLAIN WORDS (tools/lay-plain.mjs out of 'TryzSort.lean', which tools/lay-shelf.mjs wrote): THE SAME DECLARATIONS UNDER THE SAME NAMES: 'import', 'namespace', 'open', 'def', 'theorem' AND NOTHING ELSE: no command of the shelf's: FOR A HAND-IN. Each laying: the table of numbers ('.._ren') and one theorem, a field a fact of the dump's own or the kernel's comparison; each contract: ONE APPLICATION.
-/
import Derived.Shelf.SlSortCmp.NoneTotal
import Derived.Shelf.Small.Bits
import Derived.Ground.SlsfProg
import Derived.Ground.NamesProg
import Derived.Test.YtffbilcjhlncfaaGreatDoorProg
namespace Go.Proofs
open Go.Shelf
def Tryz.sortCorner_ren : Go.Shelf.Ren := ⟨fun | 6 => 201 | 15 => 234 | 14 => 233 | 28 => 258 | 29 => 244 | 20 => 250 | 21 => 251 | 22 => 252 | 23 => 253 | 24 => 254 | 25 => 255 | 26 => 256 | 27 => 257 | 46 => 260 | 47 => 261 | 48 => 262 | 49 => 263 | 50 => 264 | 57 => 265 | n => n, fun | 22 => 98 | 24 => 186 | 25 => 286 | 3 => 3 | 39 => 83 | 0 => 0 | 53 => 242 | 55 => 244 | 4 => 4 | 46 => 333 | 45 => 332 | 50 => 89 | 5 => 5 | 9 => 9 | 66 => 344 | 70 => 348 | 76 => 350 | 77 => 312 | n => n, fun | n => n⟩
theorem Tryz.sortCorner : Go.Proofs.SlLaysF0.n6 Tryz.prog Tryz.sortCorner_ren := {
  mixed := by kernel_rfl
  f6 := ⟨Tryz.f201.name, by decide, Tryz.func201.trans (congrArg some (by kernel_rfl))⟩
  f14 := ⟨Tryz.f233.name, by decide, Tryz.func233.trans (congrArg some (by kernel_rfl))⟩
  f15 := Tryz.func234.trans (congrArg some (by kernel_rfl))
  f20 := ⟨Tryz.f250.name, by decide, Tryz.func250.trans (congrArg some (by kernel_rfl))⟩
  f21 := ⟨Tryz.f251.name, by decide, Tryz.func251.trans (congrArg some (by kernel_rfl))⟩
  f22 := ⟨Tryz.f252.name, by decide, Tryz.func252.trans (congrArg some (by kernel_rfl))⟩
  f23 := ⟨Tryz.f253.name, by decide, Tryz.func253.trans (congrArg some (by kernel_rfl))⟩
  f24 := ⟨Tryz.f254.name, by decide, Tryz.func254.trans (congrArg some (by kernel_rfl))⟩
  f25 := ⟨Tryz.f255.name, by decide, Tryz.func255.trans (congrArg some (by kernel_rfl))⟩
  f26 := ⟨Tryz.f256.name, by decide, Tryz.func256.trans (congrArg some (by kernel_rfl))⟩
  f27 := ⟨Tryz.f257.name, by decide, Tryz.func257.trans (congrArg some (by kernel_rfl))⟩
  f28 := Tryz.func258.trans (congrArg some (by kernel_rfl))
  f29 := Tryz.func244.trans (congrArg some (by kernel_rfl))
  f46 := ⟨Tryz.f260.name, by decide, Tryz.func260.trans (congrArg some (by kernel_rfl))⟩
  f47 := Tryz.func261.trans (congrArg some (by kernel_rfl))
  f48 := Tryz.func262.trans (congrArg some (by kernel_rfl))
  f49 := ⟨Tryz.f263.name, by decide, Tryz.func263.trans (congrArg some (by kernel_rfl))⟩
  f50 := ⟨Tryz.f264.name, by decide, Tryz.func264.trans (congrArg some (by kernel_rfl))⟩
  f57 := ⟨Tryz.f265.name, by decide, Tryz.func265.trans (congrArg some (by kernel_rfl))⟩
  t0 := Tryz.underlying0
  a0 := Tryz.isAgg0
  z0 := Tryz.sizeOf0
  v0 := Tryz.zeroValue0
  t3 := Tryz.underlying3
  a3 := Tryz.isAgg3
  z3 := Tryz.sizeOf3
  v3 := Tryz.zeroValue3
  t4 := Tryz.underlying4
  a4 := Tryz.isAgg4
  z4 := Tryz.sizeOf4
  v4 := Tryz.zeroValue4
  t5 := Tryz.underlying5
  a5 := Tryz.isAgg5
  z5 := Tryz.sizeOf5
  v5 := Tryz.zeroValue5
  t9 := Tryz.underlying9
  a9 := Tryz.isAgg9
  z9 := Tryz.sizeOf9
  v9 := Tryz.zeroValue9
  t22 := Tryz.underlying98
  a22 := Tryz.isAgg98
  z22 := Tryz.sizeOf98
  v22 := Tryz.zeroValue98
  t25 := Tryz.underlying286
  a25 := Tryz.isAgg286
  z25 := Tryz.sizeOf286
  v25 := Tryz.zeroValue286
  t39 := Tryz.underlying83
  a39 := Tryz.isAgg83
  z39 := Tryz.sizeOf83
  v39 := Tryz.zeroValue83
  t45 := Tryz.underlying332
  a45 := Tryz.isAgg332
  z45 := Tryz.sizeOf332
  v45 := Tryz.zeroValue332
  t46 := Tryz.underlying333
  a46 := Tryz.isAgg333
  z46 := Tryz.sizeOf333
  v46 := Tryz.zeroValue333
  t50 := Tryz.underlying89
  a50 := Tryz.isAgg89
  z50 := Tryz.sizeOf89
  v50 := Tryz.zeroValue89
  t53 := Tryz.underlying242
  a53 := Tryz.isAgg242
  z53 := Tryz.sizeOf242
  v53 := Tryz.zeroValue242
  t55 := Tryz.underlying244
  a55 := Tryz.isAgg244
  z55 := Tryz.sizeOf244
  v55 := Tryz.zeroValue244
  t66 := Tryz.underlying344
  a66 := Tryz.isAgg344
  z66 := Tryz.sizeOf344
  v66 := Tryz.zeroValue344
  t70 := Tryz.underlying348
  a70 := Tryz.isAgg348
  z70 := Tryz.sizeOf348
  v70 := Tryz.zeroValue348
  t76 := Tryz.underlying350
  a76 := Tryz.isAgg350
  z76 := Tryz.sizeOf350
  v76 := Tryz.zeroValue350
  t77 := Tryz.underlying312
  a77 := Tryz.isAgg312
  z77 := Tryz.sizeOf312
  v77 := Tryz.zeroValue312 }
end Go.Proofs
