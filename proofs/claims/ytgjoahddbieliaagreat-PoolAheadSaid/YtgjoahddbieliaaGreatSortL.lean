/-
  The library's sort at a row of dirty pages: its parts are there (written by the kit's lay-plain.mjs out of one laying: SlLaysF0.n6 Slsf 6 at the instance slices.SortFunc[[]api.Dirty,api.Dirty]).
-/
import Derived.Shelf.SlGeneric
import Derived.Shelf.SlSortCmp.WholeK
import Derived.Ground.SlsfProg
import Derived.Test.YtgjoahddbieliaaGreatProg
namespace Go.Proofs
open Go.Shelf
def Tryz.sortD_ren : Go.Shelf.Ren := ⟨fun | 6 => 60 | 15 => 134 | 14 => 133 | 28 => 208 | 29 => 209 | 20 => 200 | 21 => 201 | 22 => 202 | 23 => 203 | 24 => 204 | 25 => 205 | 26 => 206 | 27 => 207 | 46 => 250 | 47 => 251 | 48 => 252 | 49 => 253 | 50 => 254 | 57 => 270 | n => n, fun | 22 => 57 | 24 => 118 | 25 => 121 | 3 => 3 | 39 => 202 | 0 => 0 | 53 => 25 | 55 => 38 | 4 => 4 | 46 => 259 | 45 => 258 | 50 => 93 | 5 => 5 | 9 => 9 | 66 => 293 | 70 => 124 | 76 => 308 | 77 => 194 | n => n, fun | n => n⟩
theorem Tryz.sortD : Go.Proofs.SlLaysF0.n6 Tryz.prog Tryz.sortD_ren := {
  mixed := by kernel_rfl
  f6 := ⟨Tryz.f60.name, by decide, Tryz.func60.trans (congrArg some (by kernel_rfl))⟩
  f14 := ⟨Tryz.f133.name, by decide, Tryz.func133.trans (congrArg some (by kernel_rfl))⟩
  f15 := Tryz.func134.trans (congrArg some (by kernel_rfl))
  f20 := ⟨Tryz.f200.name, by decide, Tryz.func200.trans (congrArg some (by kernel_rfl))⟩
  f21 := ⟨Tryz.f201.name, by decide, Tryz.func201.trans (congrArg some (by kernel_rfl))⟩
  f22 := ⟨Tryz.f202.name, by decide, Tryz.func202.trans (congrArg some (by kernel_rfl))⟩
  f23 := ⟨Tryz.f203.name, by decide, Tryz.func203.trans (congrArg some (by kernel_rfl))⟩
  f24 := ⟨Tryz.f204.name, by decide, Tryz.func204.trans (congrArg some (by kernel_rfl))⟩
  f25 := ⟨Tryz.f205.name, by decide, Tryz.func205.trans (congrArg some (by kernel_rfl))⟩
  f26 := ⟨Tryz.f206.name, by decide, Tryz.func206.trans (congrArg some (by kernel_rfl))⟩
  f27 := ⟨Tryz.f207.name, by decide, Tryz.func207.trans (congrArg some (by kernel_rfl))⟩
  f28 := Tryz.func208.trans (congrArg some (by kernel_rfl))
  f29 := Tryz.func209.trans (congrArg some (by kernel_rfl))
  f46 := ⟨Tryz.f250.name, by decide, Tryz.func250.trans (congrArg some (by kernel_rfl))⟩
  f47 := Tryz.func251.trans (congrArg some (by kernel_rfl))
  f48 := Tryz.func252.trans (congrArg some (by kernel_rfl))
  f49 := ⟨Tryz.f253.name, by decide, Tryz.func253.trans (congrArg some (by kernel_rfl))⟩
  f50 := ⟨Tryz.f254.name, by decide, Tryz.func254.trans (congrArg some (by kernel_rfl))⟩
  f57 := ⟨Tryz.f270.name, by decide, Tryz.func270.trans (congrArg some (by kernel_rfl))⟩
  t0 := Tryz.underlying0
  a0 := Tryz.isAgg0
  z0 := Tryz.sizeOf0
  v0 := Tryz.zeroValue0
  t3 := Tryz.underlying3
  a3 := Tryz.isAgg3
  z3 := Tryz.sizeOf3
  v3 := Tryz.zeroValue3
  t4 := Tryz.underlying4
  a4 := Tryz.isAgg4
  z4 := Tryz.sizeOf4
  v4 := Tryz.zeroValue4
  t5 := Tryz.underlying5
  a5 := Tryz.isAgg5
  z5 := Tryz.sizeOf5
  v5 := Tryz.zeroValue5
  t9 := Tryz.underlying9
  a9 := Tryz.isAgg9
  z9 := Tryz.sizeOf9
  v9 := Tryz.zeroValue9
  t22 := Tryz.underlying57
  a22 := Tryz.isAgg57
  z22 := Tryz.sizeOf57
  v22 := Tryz.zeroValue57
  t25 := Tryz.underlying121
  a25 := Tryz.isAgg121
  z25 := Tryz.sizeOf121
  v25 := Tryz.zeroValue121
  t39 := Tryz.underlying202
  a39 := Tryz.isAgg202
  z39 := Tryz.sizeOf202
  v39 := Tryz.zeroValue202
  t45 := Tryz.underlying258
  a45 := Tryz.isAgg258
  z45 := Tryz.sizeOf258
  v45 := Tryz.zeroValue258
  t46 := Tryz.underlying259
  a46 := Tryz.isAgg259
  z46 := Tryz.sizeOf259
  v46 := Tryz.zeroValue259
  t50 := Tryz.underlying93
  a50 := Tryz.isAgg93
  z50 := Tryz.sizeOf93
  v50 := Tryz.zeroValue93
  t53 := Tryz.underlying25
  a53 := Tryz.isAgg25
  z53 := Tryz.sizeOf25
  v53 := Tryz.zeroValue25
  t55 := Tryz.underlying38
  a55 := Tryz.isAgg38
  z55 := Tryz.sizeOf38
  v55 := Tryz.zeroValue38
  t66 := Tryz.underlying293
  a66 := Tryz.isAgg293
  z66 := Tryz.sizeOf293
  v66 := Tryz.zeroValue293
  t70 := Tryz.underlying124
  a70 := Tryz.isAgg124
  z70 := Tryz.sizeOf124
  v70 := Tryz.zeroValue124
  t76 := Tryz.underlying308
  a76 := Tryz.isAgg308
  z76 := Tryz.sizeOf308
  v76 := Tryz.zeroValue308
  t77 := Tryz.underlying194
  a77 := Tryz.isAgg194
  z77 := Tryz.sizeOf194
  v77 := Tryz.zeroValue194 }
end Go.Proofs
