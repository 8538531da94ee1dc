/- Errors as lists of operations around a core; the contract of fault.New. -/
import Derived.Test.YtmadfppacfmpeaaDoorMix
import Derived.Test.YtmadfppacfmpeaaDoorProg
open Go Go.RowKit
namespace Go.Proofs.YtmadfppacfmpeaaDoor
attribute [local irreducible] Inv.wpInv Mix.wpUp

/-- The error v is this list of operations, the outermost first, around the core. -/
def IsErr (w : World) : Value → List (ByteArray × Int) → Value → Prop
  | v, [], core => v = core
  | v, s :: l, core => ∃ b inner, v = .iface 44 (.pointer (some ⟨b, 0, none⟩)) ∧ w.heap[b]? = some (.cells #[.string s.1, .int .i64 s.2, inner] 42 (0, 0)) ∧ IsErr w inner l core

theorem IsErr.call {w w' : World} (hb : Below w.heap.size w w') : ∀ {l : List (ByteArray × Int)} {v core : Value}, IsErr w v l core → IsErr w' v l core
  | [], _, _, h => h
  | _ :: _, _, _, ⟨b, inner, hv, hc, hi⟩ => ⟨b, inner, hv, by rw [hb.block _ (heap_lt hc)]; exact hc, IsErr.call hb hi⟩

/-- It is an interface value that is not nil. -/
theorem IsErr.iface {w : World} {l : List (ByteArray × Int)} {v : Value} {ct : TypeId} {cu : Value} (h : IsErr w v l (.iface ct cu)) : ∃ t u, v = .iface t u := by
  cases l with
  | nil => exact ⟨ct, cu, h⟩
  | cons s l => obtain ⟨b, inner, hv, _⟩ := h; exact ⟨_, _, hv⟩

theorem builtFault (op : ByteArray) (a : Int) (t : TypeId) (u : Value) : Tryd.prog.built 42 [(0, .string op), (1, .int .i64 a), (2, .iface t u)] = some #[.string op, .int .i64 a, .iface t u] := by kernel_rfl

set_option maxHeartbeats 1000000 in
theorem New_calls (op : ByteArray) (n : Int) (t : TypeId) (u : Value) (w : World) :
    Calls Tryd.prog 19 #[.string op, .int .i64 n, .iface t u] w fun e w' => ∃ b, e = .returned (.iface 44 (.pointer (some ⟨b, 0, none⟩))) ∧ w.heap.size ≤ b ∧ w'.heap[b]? = some (.cells #[.string op, .int .i64 n, .iface t u] 42 (0, 0)) ∧ Below w.heap.size w w' := by
  have st := St.init w
  have hB := builtFault op n t u
  go_enter Tryd.func19, Tryd.ntmps19
  go_wp2_with (first | (refine wpList_build rfl 42 _ rfl [(0, .string op), (1, .int .i64 n), (2, .iface t u)] ?_ _ hB ?_; · (simp [Act.eval]; done)) | (refine wpList_boxA (by assumption) rfl 42 _ rfl _ rfl ?_; intro b1 w1 st1; clear st))
  go_ret
  exact ⟨b1, rfl, st1.above (i := 0) rfl, st1.at (i := 0) rfl, st1.below⟩

theorem New_nil (op : ByteArray) (n : Int) (w : World) :
    Calls Tryd.prog 19 #[.string op, .int .i64 n, .nilIface] w fun e w' => e = .returned .nilIface ∧ Below w.heap.size w w' := by
  go_enter Tryd.func19, Tryd.ntmps19
  go_wp2
  go_ret
  exact ⟨rfl, Below.refl _ _⟩

end Go.Proofs.YtmadfppacfmpeaaDoor
