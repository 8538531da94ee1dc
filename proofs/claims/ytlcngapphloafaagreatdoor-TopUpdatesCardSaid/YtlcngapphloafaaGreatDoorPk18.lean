/- Parts of the proof that are used by the claim: MulShelf. No condition is added here. -/
import Derived.Shelf.Bits.Mul64
import Derived.Test.YtlcngapphloafaaGreatDoorProg
section
namespace Go.Proofs
open Go.Shelf
def Tryz.lays212_ren:Go.Shelf.Ren:=⟨fun | 212=>164 | 263=>190 | 264=>191 | n=>n,fun | 46=>89 | 51=>243 | 53=>289 | 146=>314 | 148=>316 | n=>n,fun | n=>n⟩
theorem Tryz.lays212:Go.Proofs.Lays.n212 Tryz.prog Tryz.lays212_ren:={
 mixed:=by kernel_rfl
 f212:=Tryz.func164.trans (congrArg some (by kernel_rfl))
 f263:=Tryz.func190.trans (congrArg some (by kernel_rfl))
 f264:=Tryz.func191.trans (congrArg some (by kernel_rfl))
 t46:=Tryz.underlying89
 a46:=Tryz.isAgg89
 z46:=Tryz.sizeOf89
 v46:=Tryz.zeroValue89
 t51:=Tryz.underlying243
 a51:=Tryz.isAgg243
 z51:=Tryz.sizeOf243
 v51:=Tryz.zeroValue243
 t53:=Tryz.underlying289
 a53:=Tryz.isAgg289
 z53:=Tryz.sizeOf289
 v53:=Tryz.zeroValue289
 t146:=Tryz.underlying314
 a146:=Tryz.isAgg314
 z146:=Tryz.sizeOf314
 v146:=Tryz.zeroValue314
 t148:=Tryz.underlying316
 a148:=Tryz.isAgg316
 z148:=Tryz.sizeOf316
 v148:=Tryz.zeroValue316}
theorem Tryz.bits_Mul(x y:Nat)(hx:x<18446744073709551616)(hy:y<18446744073709551616)(w:World) :
  Calls Tryz.prog 164 #[.int .u64 x,.int .u64 y] w fun e w'=>e=.returned (.tuple #[.int .u64 ((x*y / 18446744073709551616:Nat):Int),.int .u64 ((x*y%18446744073709551616:Nat):Int)])∧w'=w :=
 Any.bits_Mul Tryz.lays212 x y hx hy w
end Go.Proofs
end
