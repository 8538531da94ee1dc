/- Closed facts on reflectlite Values at the targets *Errno and **Fault (after the worked example Toyas). -/
import Derived.Test.YtmadfppacfmpeaaDoorFAsFacts
open Go Go.RowKit Go.Extern.Stop Go.Stop Go.Extern
namespace Go.Proofs.YtmadfppacfmpeaaDoor

theorem valOfE (t : Addr) (w : World) : (ReflectliteValue.unpack (.iface 51 (.pointer (some t)))).run Tryd.prog w = .ok (.agg #[hnd 51, .pointer (some ⟨w.heap.size, 0, none⟩), .int .u64 150]) (w.alloc (.cells #[.pointer (some t)] 51)) := by kernel_rfl
theorem typE (a : Addr) (w : World) : (ReflectliteValue.methodAny (ReflectliteValue.valueError "reflectlite.Value.Type" 0) (fun t _ _ _ => ReflectliteType.toType t) #[.agg #[hnd 51, .pointer (some a), .int .u64 150]]).run Tryd.prog w = .ok (.iface 71 (.agg #[hnd 51])) w := by kernel_rfl
theorem kindTE (w : World) : ((ReflectliteType.abiMethod fun t => (fun a : Nat => Value.int IntKind.u8 (a : Int)) <$> Rtype.kind t) #[hnd 51]).run Tryd.prog w = .ok (.int .u8 22) w := by kernel_rfl
theorem kindEE (w : World) : ((ReflectliteType.abiMethod fun t => (fun a : Nat => Value.int IntKind.u8 (a : Int)) <$> Rtype.kind t) #[hnd 31]).run Tryd.prog w = .ok (.int .u8 2) w := by kernel_rfl
theorem elemE (w : World) : (ReflectliteType.method ReflectliteType.elem #[.agg #[hnd 51]]).run Tryd.prog w = .ok (.iface 71 (.agg #[hnd 31])) w := by kernel_rfl
theorem implE (w : World) : (ReflectliteType.relation "Implements" ReflectliteType.implements_ #[.agg #[hnd 31], .iface 71 (.agg #[hnd 26])]).run Tryd.prog w = .ok (.bool true) w := by kernel_rfl
theorem partsE (a : Addr) (w : World) : (ReflectliteValue.parts (.agg #[hnd 51, .pointer (some a), .int .u64 150])).run Tryd.prog w = .ok (some (51, a, 150)) w := by kernel_rfl
theorem valOfF (t : Addr) (w : World) : (ReflectliteValue.unpack (.iface 54 (.pointer (some t)))).run Tryd.prog w = .ok (.agg #[hnd 54, .pointer (some ⟨w.heap.size, 0, none⟩), .int .u64 150]) (w.alloc (.cells #[.pointer (some t)] 54)) := by kernel_rfl
theorem typF (a : Addr) (w : World) : (ReflectliteValue.methodAny (ReflectliteValue.valueError "reflectlite.Value.Type" 0) (fun t _ _ _ => ReflectliteType.toType t) #[.agg #[hnd 54, .pointer (some a), .int .u64 150]]).run Tryd.prog w = .ok (.iface 71 (.agg #[hnd 54])) w := by kernel_rfl
theorem kindTF (w : World) : ((ReflectliteType.abiMethod fun t => (fun a : Nat => Value.int IntKind.u8 (a : Int)) <$> Rtype.kind t) #[hnd 54]).run Tryd.prog w = .ok (.int .u8 22) w := by kernel_rfl
theorem kindEF (w : World) : ((ReflectliteType.abiMethod fun t => (fun a : Nat => Value.int IntKind.u8 (a : Int)) <$> Rtype.kind t) #[hnd 44]).run Tryd.prog w = .ok (.int .u8 22) w := by kernel_rfl
theorem elemF (w : World) : (ReflectliteType.method ReflectliteType.elem #[.agg #[hnd 54]]).run Tryd.prog w = .ok (.iface 71 (.agg #[hnd 44])) w := by kernel_rfl
theorem implF (w : World) : (ReflectliteType.relation "Implements" ReflectliteType.implements_ #[.agg #[hnd 44], .iface 71 (.agg #[hnd 26])]).run Tryd.prog w = .ok (.bool true) w := by kernel_rfl
theorem partsF (a : Addr) (w : World) : (ReflectliteValue.parts (.agg #[hnd 54, .pointer (some a), .int .u64 150])).run Tryd.prog w = .ok (some (54, a, 150)) w := by kernel_rfl

end Go.Proofs.YtmadfppacfmpeaaDoor
