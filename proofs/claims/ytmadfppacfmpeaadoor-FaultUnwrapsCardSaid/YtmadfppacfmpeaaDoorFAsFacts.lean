/- Closed facts for errors.As at the targets *Errno and **Fault (after the worked example Toyas). -/
import Derived.Test.YtmadfppacfmpeaaDoorFIs3
open Go Go.RowKit Go.Extern.Stop Go.Stop Go.Extern
namespace Go.Proofs.YtmadfppacfmpeaaDoor

abbrev hnd (t : TypeId) : Value := .pointer (some ⟨4, t, none⟩)

theorem noAsF (v : Value) (xT : TypeId) (w : World) : (Instr.typeAssert (.iface 44 v) xT 75 true).run Tryd.prog w = .ok (.tuple #[.nilIface, .bool false]) w := run_typeAssert_lacksB Tryd.underlying75 (by kernel_rfl) (by kernel_rfl) v xT w
theorem noAsE (v : Value) (xT : TypeId) (w : World) : (Instr.typeAssert (.iface 31 v) xT 75 true).run Tryd.prog w = .ok (.tuple #[.nilIface, .bool false]) w := run_typeAssert_lacksB Tryd.underlying75 (by kernel_rfl) (by kernel_rfl) v xT w
theorem noAsP (v : Value) (xT : TypeId) (w : World) : (Instr.typeAssert (.iface 47 v) xT 75 true).run Tryd.prog w = .ok (.tuple #[.nilIface, .bool false]) w := run_typeAssert_lacksB Tryd.underlying75 (by kernel_rfl) (by kernel_rfl) v xT w
theorem methKind (h : Value) (w : World) : (Go.method 231 71 (.agg #[h]) "Kind").run Tryd.prog w = .ok (59, h) w := by kernel_rfl
theorem methElem (h : Value) (w : World) : (Go.method 231 71 (.agg #[h]) "Elem").run Tryd.prog w = .ok (70, .agg #[h]) w := by kernel_rfl
theorem methImpl (h : Value) (w : World) : (Go.method 231 71 (.agg #[h]) "Implements").run Tryd.prog w = .ok (71, .agg #[h]) w := by kernel_rfl
theorem methAssign (h : Value) (w : World) : (Go.method 231 71 (.agg #[h]) "AssignableTo").run Tryd.prog w = .ok (68, .agg #[h]) w := by kernel_rfl
theorem typeOfF (v : Value) (w : World) : (ReflectliteType.typeOf #[.iface 44 v]).run Tryd.prog w = .ok (.iface 71 (.agg #[hnd 44])) w := by kernel_rfl
theorem typeOfP (v : Value) (w : World) : (ReflectliteType.typeOf #[.iface 47 v]).run Tryd.prog w = .ok (.iface 71 (.agg #[hnd 47])) w := by kernel_rfl

def assignEntry : Array Value → Sem Value := ReflectliteType.relation "AssignableTo" ReflectliteType.assignableTo
theorem asgFF (w : World) : (assignEntry #[.agg #[hnd 44], .iface 71 (.agg #[hnd 44])]).run Tryd.prog w = .ok (.bool true) w := by kernel_rfl
theorem asgEF (w : World) : (assignEntry #[.agg #[hnd 31], .iface 71 (.agg #[hnd 44])]).run Tryd.prog w = .ok (.bool false) w := by kernel_rfl
theorem asgPF (w : World) : (assignEntry #[.agg #[hnd 47], .iface 71 (.agg #[hnd 44])]).run Tryd.prog w = .ok (.bool false) w := by kernel_rfl
theorem asgFE (w : World) : (assignEntry #[.agg #[hnd 44], .iface 71 (.agg #[hnd 31])]).run Tryd.prog w = .ok (.bool false) w := by kernel_rfl
theorem asgEE (w : World) : (assignEntry #[.agg #[hnd 31], .iface 71 (.agg #[hnd 31])]).run Tryd.prog w = .ok (.bool true) w := by kernel_rfl
theorem asgPE (w : World) : (assignEntry #[.agg #[hnd 47], .iface 71 (.agg #[hnd 31])]).run Tryd.prog w = .ok (.bool false) w := by kernel_rfl

end Go.Proofs.YtmadfppacfmpeaaDoor
