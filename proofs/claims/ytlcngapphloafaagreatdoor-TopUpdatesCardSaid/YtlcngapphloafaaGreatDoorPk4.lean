/- Parts of the proof that are used by the claim: Shelf. No condition is added here. -/
import Derived.Shelf.Small.Bits
import Derived.Test.YtlcngapphloafaaGreatDoorProg
section
namespace Go.Proofs
open Go.Shelf
def Tryz.lays131_ren:Go.Shelf.Ren:=⟨fun | 131=>172 | 126=>193 | n=>n,fun | 5=>5 | 3=>3 | 9=>9 | n=>n,fun | n=>n⟩
theorem Tryz.lays131:Go.Proofs.Lays.n131 Tryz.prog Tryz.lays131_ren:={
 mixed:=by kernel_rfl
 f126:=Tryz.func193.trans (congrArg some (by kernel_rfl))
 f131:=Tryz.func172.trans (congrArg some (by kernel_rfl))
 t3:=Tryz.underlying3
 a3:=Tryz.isAgg3
 z3:=Tryz.sizeOf3
 v3:=Tryz.zeroValue3
 t5:=Tryz.underlying5
 a5:=Tryz.isAgg5
 z5:=Tryz.sizeOf5
 v5:=Tryz.zeroValue5
 t9:=Tryz.underlying9
 a9:=Tryz.isAgg9
 z9:=Tryz.sizeOf9
 v9:=Tryz.zeroValue9}
theorem Tryz.bits_LeadingZeros8(x:Int)(w:World)(h0:0≤x)(h1:x≤255) :
  Calls Tryz.prog 172 #[.int .u8 x] w fun e w'=>e=.returned (.int .i64 (8 - (Lib.bitLen x.toNat:Int)))∧w'=w:=Any.bits_LeadingZeros8 Tryz.lays131 x w h0 h1
def Tryz.lays135_ren:Go.Shelf.Ren:=⟨fun | 135=>149 | n=>n,fun | 5=>5 | 3=>3 | 9=>9 | n=>n,fun | n=>n⟩
theorem Tryz.lays135:Go.Proofs.Lays.n135 Tryz.prog Tryz.lays135_ren:={
 mixed:=by kernel_rfl
 f135:=Tryz.func149.trans (congrArg some (by kernel_rfl))
 t3:=Tryz.underlying3
 a3:=Tryz.isAgg3
 z3:=Tryz.sizeOf3
 v3:=Tryz.zeroValue3
 t5:=Tryz.underlying5
 a5:=Tryz.isAgg5
 z5:=Tryz.sizeOf5
 v5:=Tryz.zeroValue5
 t9:=Tryz.underlying9
 a9:=Tryz.isAgg9
 z9:=Tryz.sizeOf9
 v9:=Tryz.zeroValue9}
theorem Tryz.bits_OnesCount8(x:Int)(w:World)(h0:0≤x)(h1:x≤255) :
  Calls Tryz.prog 149 #[.int .u8 x] w fun e w'=>e=.returned (.int .i64 (Lib.onesCount x.toNat))∧w'=w:=Any.bits_OnesCount8 Tryz.lays135 x w h0 h1
end Go.Proofs
end
