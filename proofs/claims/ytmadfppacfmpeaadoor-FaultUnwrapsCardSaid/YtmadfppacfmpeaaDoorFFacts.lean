/- Closed facts on the model's entries at this program's types; the contract of Unwrap. -/
import Derived.Test.YtmadfppacfmpeaaDoorFLong
import Derived.Test.YtmadfppacfmpeaaDoorChecked
import Derived.LaidEql
import Derived.Stop.Asserts
import Derived.RowKitTokens
open Go Go.RowKit Go.Extern.Stop Go.Stop Go.Extern
namespace Go.Proofs.YtmadfppacfmpeaaDoor

/-- Whether an assertion of an error to an interface with one method holds. -/
theorem noIsF (v : Value) (xT : TypeId) (w : World) : (Instr.typeAssert (.iface 44 v) xT 82 true).run Tryd.prog w = .ok (.tuple #[.nilIface, .bool false]) w := run_typeAssert_lacksB Tryd.underlying82 (by kernel_rfl) (by kernel_rfl) v xT w
theorem noIsE (v : Value) (xT : TypeId) (w : World) : (Instr.typeAssert (.iface 31 v) xT 82 true).run Tryd.prog w = .ok (.tuple #[.nilIface, .bool false]) w := run_typeAssert_lacksB Tryd.underlying82 (by kernel_rfl) (by kernel_rfl) v xT w
theorem noIsP (v : Value) (xT : TypeId) (w : World) : (Instr.typeAssert (.iface 47 v) xT 82 true).run Tryd.prog w = .ok (.tuple #[.nilIface, .bool false]) w := run_typeAssert_lacksB Tryd.underlying82 (by kernel_rfl) (by kernel_rfl) v xT w
theorem noUnE (v : Value) (xT : TypeId) (w : World) : (Instr.typeAssert (.iface 31 v) xT 78 true).run Tryd.prog w = .ok (.tuple #[.nilIface, .bool false]) w := run_typeAssert_lacksB Tryd.underlying78 (by kernel_rfl) (by kernel_rfl) v xT w
theorem noUnP (v : Value) (xT : TypeId) (w : World) : (Instr.typeAssert (.iface 47 v) xT 78 true).run Tryd.prog w = .ok (.tuple #[.nilIface, .bool false]) w := run_typeAssert_lacksB Tryd.underlying78 (by kernel_rfl) (by kernel_rfl) v xT w
theorem noUsE (v : Value) (xT : TypeId) (w : World) : (Instr.typeAssert (.iface 31 v) xT 79 true).run Tryd.prog w = .ok (.tuple #[.nilIface, .bool false]) w := run_typeAssert_lacksB Tryd.underlying79 (by kernel_rfl) (by kernel_rfl) v xT w
theorem noUsP (v : Value) (xT : TypeId) (w : World) : (Instr.typeAssert (.iface 47 v) xT 79 true).run Tryd.prog w = .ok (.tuple #[.nilIface, .bool false]) w := run_typeAssert_lacksB Tryd.underlying79 (by kernel_rfl) (by kernel_rfl) v xT w
theorem hasUnF (v : Value) (xT : TypeId) (w : World) : (Instr.typeAssert (.iface 44 v) xT 78 true).run Tryd.prog w = .ok (.tuple #[.iface 44 v, .bool true]) w := run_typeAssert_hasB Tryd.underlying78 (by kernel_rfl) v xT w

set_option maxHeartbeats 1000000 in
theorem Unwrap_calls (b : Nat) (c0 c1 c2 : Value) (w : World) (h : w.heap[b]? = some (.cells #[c0, c1, c2] 42 (0, 0))) :
    Calls Tryd.prog 17 #[.pointer (some ⟨b, 0, none⟩)] w fun e w' => e = .returned c2 ∧ w' = w := by
  have h2 : w.cell? ⟨b, 2, none⟩ = some c2 := by simp [World.cell?, h]
  go_enter Tryd.func17, Tryd.ntmps17
  go_wp2
  go_ret
  exact ⟨rfl, rfl⟩

end Go.Proofs.YtmadfppacfmpeaaDoor
