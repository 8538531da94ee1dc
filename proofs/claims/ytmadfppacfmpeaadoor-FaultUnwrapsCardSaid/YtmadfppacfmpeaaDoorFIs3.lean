/- errors.Is for an error without a code; the contracts of fault.Is. -/
import Derived.Test.YtmadfppacfmpeaaDoorFIs2
open Go Go.RowKit Go.Extern.Stop Go.Stop Go.Extern
namespace Go.Proofs.YtmadfppacfmpeaaDoor

set_option maxHeartbeats 1000000 in
theorem IsP_calls (l : List (ByteArray × Int)) (v : Value) (u0 : Value) (x : Int) (w : World) (h : IsErr w v l (.iface 47 u0)) :
    Calls Tryd.prog 22 #[v, .iface 31 (.int .i64 x)] w fun e w' => e = .returned (.bool false) ∧ w' = w := by
  have h8 := @run_callFunc_extern Tryd.prog 28 _ Extern.ReflectliteType.typeOf Tryd.func28 (by kernel_rfl) (by kernel_rfl) (by kernel_rfl) (by kernel_rfl)
  have h32 := @run_callFunc_extern Tryd.prog 69 _ compEntry Tryd.func69 (by kernel_rfl) (by kernel_rfl) (by kernel_rfl) (by kernel_rfl)
  have tT := typeOfE
  have cT := compE
  have mR := methComp
  have H1 := Lib.hid (isP_calls l v u0 x w h)
  obtain ⟨t, u, rfl⟩ := h.iface
  clear h
  go_enter Tryd.func22, Tryd.ntmps22
  go_wp2_with (first | (go_at_call 29; refine (H1.out).mono ?_; rintro e wn ⟨rfl, rfl⟩))
  go_ret
  exact ⟨rfl, rfl⟩

theorem FIs_of (v : Value) (x : Int) (r : Bool) (w : World) (h : Calls Tryd.prog 22 #[v, .iface 31 (.int .i64 x)] w fun e w' => e = .returned (.bool r) ∧ w' = w) :
    Calls Tryd.prog 14 #[v, .int .i64 x] w fun e w' => e = .returned (.bool r) ∧ w' = w := by
  have H1 := Lib.hid h
  clear h
  go_enter Tryd.func14, Tryd.ntmps14
  go_wp2_with (first | (go_at_call 22; refine (H1.out).mono ?_; rintro e wn ⟨rfl, rfl⟩))
  go_ret
  exact ⟨rfl, rfl⟩

theorem FIs_code (l : List (ByteArray × Int)) (v : Value) (c x : Int) (w : World) (h : IsErr w v l (.iface 31 (.int .i64 c))) :
    Calls Tryd.prog 14 #[v, .int .i64 x] w fun e w' => e = .returned (.bool (c == x)) ∧ w' = w := FIs_of v x _ w (Is_calls l v c x w h)
theorem FIs_plain (l : List (ByteArray × Int)) (v u : Value) (x : Int) (w : World) (h : IsErr w v l (.iface 47 u)) :
    Calls Tryd.prog 14 #[v, .int .i64 x] w fun e w' => e = .returned (.bool false) ∧ w' = w := FIs_of v x _ w (IsP_calls l v u x w h)
theorem FIs_nil (x : Int) (w : World) :
    Calls Tryd.prog 14 #[.nilIface, .int .i64 x] w fun e w' => e = .returned (.bool false) ∧ w' = w := FIs_of _ x _ w (Is_nil x w)

end Go.Proofs.YtmadfppacfmpeaaDoor
