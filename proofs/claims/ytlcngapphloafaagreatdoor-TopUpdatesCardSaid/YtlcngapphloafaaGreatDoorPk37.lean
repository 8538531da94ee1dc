/- Parts of the proof that are used by the claim: SrtLay. No condition is added here. -/
import Derived.Shelf.SlSortCmp.WholeK
import Derived.Test.YtlcngapphloafaaGreatDoorProg
section
namespace Go.Proofs
open Go.Shelf
def Tryz.sortCh_ren:Go.Shelf.Ren:=⟨fun | 6=>152 | 15=>175 | 14=>174 | 28=>202 | 29=>203 | 20=>194 | 21=>195 | 22=>196 | 23=>197 | 24=>198 | 25=>199 | 26=>200 | 27=>201 | 46=>212 | 47=>213 | 48=>214 | 49=>215 | 50=>216 | 57=>219 | n=>n,fun | 22=>235 | 24=>276 | 25=>278 | 3=>3 | 39=>89 | 0=>0 | 53=>243 | 55=>289 | 4=>4 | 46=>320 | 45=>319 | 50=>324 | 5=>5 | 9=>9 | 66=>334 | 70=>338 | 76=>342 | 77=>172 | n=>n,fun | n=>n⟩
theorem Tryz.sortCh:Go.Proofs.SlLaysF0.n6 Tryz.prog Tryz.sortCh_ren:={
 mixed:=by kernel_rfl
 f6:=⟨Tryz.f152.name,by decide,Tryz.func152.trans (congrArg some (by kernel_rfl))⟩
 f14:=⟨Tryz.f174.name,by decide,Tryz.func174.trans (congrArg some (by kernel_rfl))⟩
 f15:=Tryz.func175.trans (congrArg some (by kernel_rfl))
 f20:=⟨Tryz.f194.name,by decide,Tryz.func194.trans (congrArg some (by kernel_rfl))⟩
 f21:=⟨Tryz.f195.name,by decide,Tryz.func195.trans (congrArg some (by kernel_rfl))⟩
 f22:=⟨Tryz.f196.name,by decide,Tryz.func196.trans (congrArg some (by kernel_rfl))⟩
 f23:=⟨Tryz.f197.name,by decide,Tryz.func197.trans (congrArg some (by kernel_rfl))⟩
 f24:=⟨Tryz.f198.name,by decide,Tryz.func198.trans (congrArg some (by kernel_rfl))⟩
 f25:=⟨Tryz.f199.name,by decide,Tryz.func199.trans (congrArg some (by kernel_rfl))⟩
 f26:=⟨Tryz.f200.name,by decide,Tryz.func200.trans (congrArg some (by kernel_rfl))⟩
 f27:=⟨Tryz.f201.name,by decide,Tryz.func201.trans (congrArg some (by kernel_rfl))⟩
 f28:=Tryz.func202.trans (congrArg some (by kernel_rfl))
 f29:=Tryz.func203.trans (congrArg some (by kernel_rfl))
 f46:=⟨Tryz.f212.name,by decide,Tryz.func212.trans (congrArg some (by kernel_rfl))⟩
 f47:=Tryz.func213.trans (congrArg some (by kernel_rfl))
 f48:=Tryz.func214.trans (congrArg some (by kernel_rfl))
 f49:=⟨Tryz.f215.name,by decide,Tryz.func215.trans (congrArg some (by kernel_rfl))⟩
 f50:=⟨Tryz.f216.name,by decide,Tryz.func216.trans (congrArg some (by kernel_rfl))⟩
 f57:=⟨Tryz.f219.name,by decide,Tryz.func219.trans (congrArg some (by kernel_rfl))⟩
 t0:=Tryz.underlying0
 a0:=Tryz.isAgg0
 z0:=Tryz.sizeOf0
 v0:=Tryz.zeroValue0
 t3:=Tryz.underlying3
 a3:=Tryz.isAgg3
 z3:=Tryz.sizeOf3
 v3:=Tryz.zeroValue3
 t4:=Tryz.underlying4
 a4:=Tryz.isAgg4
 z4:=Tryz.sizeOf4
 v4:=Tryz.zeroValue4
 t5:=Tryz.underlying5
 a5:=Tryz.isAgg5
 z5:=Tryz.sizeOf5
 v5:=Tryz.zeroValue5
 t9:=Tryz.underlying9
 a9:=Tryz.isAgg9
 z9:=Tryz.sizeOf9
 v9:=Tryz.zeroValue9
 t22:=Tryz.underlying235
 a22:=Tryz.isAgg235
 z22:=Tryz.sizeOf235
 v22:=Tryz.zeroValue235
 t25:=Tryz.underlying278
 a25:=Tryz.isAgg278
 z25:=Tryz.sizeOf278
 v25:=Tryz.zeroValue278
 t39:=Tryz.underlying89
 a39:=Tryz.isAgg89
 z39:=Tryz.sizeOf89
 v39:=Tryz.zeroValue89
 t45:=Tryz.underlying319
 a45:=Tryz.isAgg319
 z45:=Tryz.sizeOf319
 v45:=Tryz.zeroValue319
 t46:=Tryz.underlying320
 a46:=Tryz.isAgg320
 z46:=Tryz.sizeOf320
 v46:=Tryz.zeroValue320
 t50:=Tryz.underlying324
 a50:=Tryz.isAgg324
 z50:=Tryz.sizeOf324
 v50:=Tryz.zeroValue324
 t53:=Tryz.underlying243
 a53:=Tryz.isAgg243
 z53:=Tryz.sizeOf243
 v53:=Tryz.zeroValue243
 t55:=Tryz.underlying289
 a55:=Tryz.isAgg289
 z55:=Tryz.sizeOf289
 v55:=Tryz.zeroValue289
 t66:=Tryz.underlying334
 a66:=Tryz.isAgg334
 z66:=Tryz.sizeOf334
 v66:=Tryz.zeroValue334
 t70:=Tryz.underlying338
 a70:=Tryz.isAgg338
 z70:=Tryz.sizeOf338
 v70:=Tryz.zeroValue338
 t76:=Tryz.underlying342
 a76:=Tryz.isAgg342
 z76:=Tryz.sizeOf342
 v76:=Tryz.zeroValue342
 t77:=Tryz.underlying172
 a77:=Tryz.isAgg172
 z77:=Tryz.sizeOf172
 v77:=Tryz.zeroValue172}
end Go.Proofs
end
