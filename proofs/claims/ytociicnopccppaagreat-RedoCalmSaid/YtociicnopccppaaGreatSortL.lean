/-
 The library's sort at a row of dirty pages: its parts are there (written by the kit's lay-plain.mjs out of one laying: SlLaysF0.n6 Slsf 6 at the instance slices.SortFunc[[]api.Dirty,api.Dirty]).
-/
import Derived.Shelf.SlGeneric
import Derived.Shelf.SlSortCmp.WholeK
import Derived.Ground.SlsfProg
import Derived.Test.YtociicnopccppaaGreatProg
set_option linter.all false
namespace Go.Proofs
open Go.Shelf
def Tryz.sortD_ren:Go.Shelf.Ren:=⟨fun|6 => 96 | 15 => 155 | 14 => 159 | 28 => 199 | 29 => 200 | 20 => 202 | 21 => 203 | 22 => 204 | 23 => 205 | 24 => 206 | 25 => 207 | 26 => 208 | 27 => 209 | 46 => 234 | 47 => 230 | 48 => 231 | 49 => 235 | 50 => 236 | 57 => 239 | n=>n,fun|22 => 71 | 24 => 84 | 25 => 198 | 3 => 3 | 39 => 252 | 0 => 0 | 53 => 39 | 55 => 40 | 4 => 4 | 46 => 288 | 45 => 287 | 50 => 116 | 5 => 5 | 9 => 9 | 66 => 315 | 70 => 135 | 76 => 322 | 77 => 264 | n=>n,fun|n=>n⟩
theorem Tryz.sortD:Go.Proofs.SlLaysF0.n6 Tryz.prog Tryz.sortD_ren:={
 mixed:=by kernel_rfl
 f6:=⟨Tryz.f96.name,by decide,Tryz.func96.trans (congrArg some (by kernel_rfl))⟩
 f14:=⟨Tryz.f159.name,by decide,Tryz.func159.trans (congrArg some (by kernel_rfl))⟩
 f15:=Tryz.func155.trans (congrArg some (by kernel_rfl))
 f20:=⟨Tryz.f202.name,by decide,Tryz.func202.trans (congrArg some (by kernel_rfl))⟩
 f21:=⟨Tryz.f203.name,by decide,Tryz.func203.trans (congrArg some (by kernel_rfl))⟩
 f22:=⟨Tryz.f204.name,by decide,Tryz.func204.trans (congrArg some (by kernel_rfl))⟩
 f23:=⟨Tryz.f205.name,by decide,Tryz.func205.trans (congrArg some (by kernel_rfl))⟩
 f24:=⟨Tryz.f206.name,by decide,Tryz.func206.trans (congrArg some (by kernel_rfl))⟩
 f25:=⟨Tryz.f207.name,by decide,Tryz.func207.trans (congrArg some (by kernel_rfl))⟩
 f26:=⟨Tryz.f208.name,by decide,Tryz.func208.trans (congrArg some (by kernel_rfl))⟩
 f27:=⟨Tryz.f209.name,by decide,Tryz.func209.trans (congrArg some (by kernel_rfl))⟩
 f28:=Tryz.func199.trans (congrArg some (by kernel_rfl))
 f29:=Tryz.func200.trans (congrArg some (by kernel_rfl))
 f46:=⟨Tryz.f234.name,by decide,Tryz.func234.trans (congrArg some (by kernel_rfl))⟩
 f47:=Tryz.func230.trans (congrArg some (by kernel_rfl))
 f48:=Tryz.func231.trans (congrArg some (by kernel_rfl))
 f49:=⟨Tryz.f235.name,by decide,Tryz.func235.trans (congrArg some (by kernel_rfl))⟩
 f50:=⟨Tryz.f236.name,by decide,Tryz.func236.trans (congrArg some (by kernel_rfl))⟩
 f57:=⟨Tryz.f239.name,by decide,Tryz.func239.trans (congrArg some (by kernel_rfl))⟩
 t0:=Tryz.underlying0
 a0:=Tryz.isAgg0
 z0:=Tryz.sizeOf0
 v0:=Tryz.zeroValue0
 t3:=Tryz.underlying3
 a3:=Tryz.isAgg3
 z3:=Tryz.sizeOf3
 v3:=Tryz.zeroValue3
 t4:=Tryz.underlying4
 a4:=Tryz.isAgg4
 z4:=Tryz.sizeOf4
 v4:=Tryz.zeroValue4
 t5:=Tryz.underlying5
 a5:=Tryz.isAgg5
 z5:=Tryz.sizeOf5
 v5:=Tryz.zeroValue5
 t9:=Tryz.underlying9
 a9:=Tryz.isAgg9
 z9:=Tryz.sizeOf9
 v9:=Tryz.zeroValue9
 t22:=Tryz.underlying71
 a22:=Tryz.isAgg71
 z22:=Tryz.sizeOf71
 v22:=Tryz.zeroValue71
 t25:=Tryz.underlying198
 a25:=Tryz.isAgg198
 z25:=Tryz.sizeOf198
 v25:=Tryz.zeroValue198
 t39:=Tryz.underlying252
 a39:=Tryz.isAgg252
 z39:=Tryz.sizeOf252
 v39:=Tryz.zeroValue252
 t45:=Tryz.underlying287
 a45:=Tryz.isAgg287
 z45:=Tryz.sizeOf287
 v45:=Tryz.zeroValue287
 t46:=Tryz.underlying288
 a46:=Tryz.isAgg288
 z46:=Tryz.sizeOf288
 v46:=Tryz.zeroValue288
 t50:=Tryz.underlying116
 a50:=Tryz.isAgg116
 z50:=Tryz.sizeOf116
 v50:=Tryz.zeroValue116
 t53:=Tryz.underlying39
 a53:=Tryz.isAgg39
 z53:=Tryz.sizeOf39
 v53:=Tryz.zeroValue39
 t55:=Tryz.underlying40
 a55:=Tryz.isAgg40
 z55:=Tryz.sizeOf40
 v55:=Tryz.zeroValue40
 t66:=Tryz.underlying315
 a66:=Tryz.isAgg315
 z66:=Tryz.sizeOf315
 v66:=Tryz.zeroValue315
 t70:=Tryz.underlying135
 a70:=Tryz.isAgg135
 z70:=Tryz.sizeOf135
 v70:=Tryz.zeroValue135
 t76:=Tryz.underlying322
 a76:=Tryz.isAgg322
 z76:=Tryz.sizeOf322
 v76:=Tryz.zeroValue322
 t77:=Tryz.underlying264
 a77:=Tryz.isAgg264
 z77:=Tryz.sizeOf264
 v77:=Tryz.zeroValue264}
end Go.Proofs
