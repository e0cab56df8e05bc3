/-
 The library's sort at a row of dirty pages: its parts are there (written by the kit's lay-plain.mjs out of one laying: SlLaysF0.n6 Slsf 6 at the instance slices.SortFunc[[]api.Dirty,api.Dirty]).
-/
import Derived.Shelf.SlGeneric
import Derived.Shelf.SlSortCmp.WholeK
import Derived.Ground.SlsfProg
import Derived.Test.YtemacanaihaldaaGreatProg
set_option linter.all false
namespace Go.Proofs
open Go.Shelf
def Tryz.sortD_ren:Go.Shelf.Ren:=⟨fun|6 => 146 | 15 => 224 | 14 => 223 | 28 => 267 | 29 => 268 | 20 => 259 | 21 => 260 | 22 => 261 | 23 => 262 | 24 => 263 | 25 => 264 | 26 => 265 | 27 => 266 | 46 => 293 | 47 => 294 | 48 => 295 | 49 => 296 | 50 => 297 | 57 => 303 | n=>n,fun|22 => 125 | 24 => 195 | 25 => 258 | 3 => 3 | 39 => 334 | 0 => 0 | 53 => 36 | 55 => 51 | 4 => 4 | 46 => 364 | 45 => 363 | 50 => 144 | 5 => 5 | 9 => 9 | 66 => 388 | 70 => 102 | 76 => 394 | 77 => 328 | n=>n,fun|n=>n⟩
theorem Tryz.sortD:Go.Proofs.SlLaysF0.n6 Tryz.prog Tryz.sortD_ren:={
 mixed:=by kernel_rfl
 f6:=⟨Tryz.f146.name,by decide,Tryz.func146.trans (congrArg some (by kernel_rfl))⟩
 f14:=⟨Tryz.f223.name,by decide,Tryz.func223.trans (congrArg some (by kernel_rfl))⟩
 f15:=Tryz.func224.trans (congrArg some (by kernel_rfl))
 f20:=⟨Tryz.f259.name,by decide,Tryz.func259.trans (congrArg some (by kernel_rfl))⟩
 f21:=⟨Tryz.f260.name,by decide,Tryz.func260.trans (congrArg some (by kernel_rfl))⟩
 f22:=⟨Tryz.f261.name,by decide,Tryz.func261.trans (congrArg some (by kernel_rfl))⟩
 f23:=⟨Tryz.f262.name,by decide,Tryz.func262.trans (congrArg some (by kernel_rfl))⟩
 f24:=⟨Tryz.f263.name,by decide,Tryz.func263.trans (congrArg some (by kernel_rfl))⟩
 f25:=⟨Tryz.f264.name,by decide,Tryz.func264.trans (congrArg some (by kernel_rfl))⟩
 f26:=⟨Tryz.f265.name,by decide,Tryz.func265.trans (congrArg some (by kernel_rfl))⟩
 f27:=⟨Tryz.f266.name,by decide,Tryz.func266.trans (congrArg some (by kernel_rfl))⟩
 f28:=Tryz.func267.trans (congrArg some (by kernel_rfl))
 f29:=Tryz.func268.trans (congrArg some (by kernel_rfl))
 f46:=⟨Tryz.f293.name,by decide,Tryz.func293.trans (congrArg some (by kernel_rfl))⟩
 f47:=Tryz.func294.trans (congrArg some (by kernel_rfl))
 f48:=Tryz.func295.trans (congrArg some (by kernel_rfl))
 f49:=⟨Tryz.f296.name,by decide,Tryz.func296.trans (congrArg some (by kernel_rfl))⟩
 f50:=⟨Tryz.f297.name,by decide,Tryz.func297.trans (congrArg some (by kernel_rfl))⟩
 f57:=⟨Tryz.f303.name,by decide,Tryz.func303.trans (congrArg some (by kernel_rfl))⟩
 t0:=Tryz.underlying0
 a0:=Tryz.isAgg0
 z0:=Tryz.sizeOf0
 v0:=Tryz.zeroValue0
 t3:=Tryz.underlying3
 a3:=Tryz.isAgg3
 z3:=Tryz.sizeOf3
 v3:=Tryz.zeroValue3
 t4:=Tryz.underlying4
 a4:=Tryz.isAgg4
 z4:=Tryz.sizeOf4
 v4:=Tryz.zeroValue4
 t5:=Tryz.underlying5
 a5:=Tryz.isAgg5
 z5:=Tryz.sizeOf5
 v5:=Tryz.zeroValue5
 t9:=Tryz.underlying9
 a9:=Tryz.isAgg9
 z9:=Tryz.sizeOf9
 v9:=Tryz.zeroValue9
 t22:=Tryz.underlying125
 a22:=Tryz.isAgg125
 z22:=Tryz.sizeOf125
 v22:=Tryz.zeroValue125
 t25:=Tryz.underlying258
 a25:=Tryz.isAgg258
 z25:=Tryz.sizeOf258
 v25:=Tryz.zeroValue258
 t39:=Tryz.underlying334
 a39:=Tryz.isAgg334
 z39:=Tryz.sizeOf334
 v39:=Tryz.zeroValue334
 t45:=Tryz.underlying363
 a45:=Tryz.isAgg363
 z45:=Tryz.sizeOf363
 v45:=Tryz.zeroValue363
 t46:=Tryz.underlying364
 a46:=Tryz.isAgg364
 z46:=Tryz.sizeOf364
 v46:=Tryz.zeroValue364
 t50:=Tryz.underlying144
 a50:=Tryz.isAgg144
 z50:=Tryz.sizeOf144
 v50:=Tryz.zeroValue144
 t53:=Tryz.underlying36
 a53:=Tryz.isAgg36
 z53:=Tryz.sizeOf36
 v53:=Tryz.zeroValue36
 t55:=Tryz.underlying51
 a55:=Tryz.isAgg51
 z55:=Tryz.sizeOf51
 v55:=Tryz.zeroValue51
 t66:=Tryz.underlying388
 a66:=Tryz.isAgg388
 z66:=Tryz.sizeOf388
 v66:=Tryz.zeroValue388
 t70:=Tryz.underlying102
 a70:=Tryz.isAgg102
 z70:=Tryz.sizeOf102
 v70:=Tryz.zeroValue102
 t76:=Tryz.underlying394
 a76:=Tryz.isAgg394
 z76:=Tryz.sizeOf394
 v76:=Tryz.zeroValue394
 t77:=Tryz.underlying328
 a77:=Tryz.isAgg328
 z77:=Tryz.sizeOf328
 v77:=Tryz.zeroValue328}
end Go.Proofs
