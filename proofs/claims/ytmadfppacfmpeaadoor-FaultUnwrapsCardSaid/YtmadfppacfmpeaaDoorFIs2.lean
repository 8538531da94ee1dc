/- errors.Is where the core is an error without a code, and of nil; fault.Is. -/
import Derived.Test.YtmadfppacfmpeaaDoorFIs
open Go Go.RowKit Go.Extern.Stop Go.Stop Go.Extern
namespace Go.Proofs.YtmadfppacfmpeaaDoor

set_option maxHeartbeats 1000000 in
theorem Is_nil (x : Int) (w : World) :
    Calls Tryd.prog 22 #[.nilIface, .iface 31 (.int .i64 x)] w fun e w' => e = .returned (.bool false) ∧ w' = w := by
  have hn := run_eql_iface_nil_left (P := Tryd.prog) w 31 (.int .i64 x) Tryd.underlying26
  go_enter Tryd.func22, Tryd.ntmps22
  go_wp2
  go_ret
  exact ⟨rfl, rfl⟩

set_option maxHeartbeats 1000000 in
theorem isP_calls (l : List (ByteArray × Int)) (v : Value) (u : Value) (x : Int) (w : World) (h : IsErr w v l (.iface 47 u)) :
    Calls Tryd.prog 29 #[v, .iface 31 (.int .i64 x), .bool true] w fun e w' => e = .returned (.bool false) ∧ w' = w := by
  have nF := noIsF
  have nE := noIsP
  have uE := noUnP
  have sE := noUsP
  have hF := hasUnF
  have hne := fun (p : Value) (q : Value) (wx : World) => run_eql_iface_types (P := Tryd.prog) 44 31 p q Tryd.underlying26 (by decide) wx
  have hne2 := fun (p : Value) (q : Value) (wx : World) => run_eql_iface_types (P := Tryd.prog) 47 31 p q Tryd.underlying26 (by decide) wx
  have mU := methUnF
  have Hh := Lib.hid h
  clear h
  go_enter Tryd.func29, Tryd.ntmps29
  go_wp2
  go_loopw [0] (fun err wr => wr = w ∧ ∃ l, IsErr w err l (.iface 47 u)) (fun err _ => errLen (.iface 47 u) w err)
  case atStart => exact ⟨rfl, l, Hh.out⟩
  case round =>
    obtain ⟨rfl, l', h⟩ := hrel
    cases l' with
    | nil =>
      obtain rfl := h
      go_wp2
      go_ret
      exact ⟨rfl, rfl⟩
    | cons s l' =>
      obtain ⟨b, inner, rfl, hc, hi⟩ := h
      obtain ⟨it, iu, rfl⟩ := hi.iface
      have h2 : wr.cell? ⟨b, 2, none⟩ = some (.iface it iu) := by simp [World.cell?, hc]
      have m0 := errLen_eq (by decide) (show IsErr wr (.iface 44 (.pointer (some ⟨b, 0, none⟩))) (s :: l') (.iface 47 u) from ⟨b, _, rfl, hc, hi⟩)
      have m1 := errLen_eq (by decide) hi
      have Hm : Hid (errLen (.iface 47 u) wr (.iface it iu) < errLen (.iface 47 u) wr (.iface 44 (.pointer (some ⟨b, 0, none⟩)))) := by
        unfold Hid
        rw [m0, m1]
        exact Nat.lt_succ_self _
      have Hi := Lib.hid hi
      clear m0 m1 hc hi
      go_wp2
      go_roundw
      case rel => exact ⟨trivial, l', Hi.out⟩
      case measure => exact Hm.out

end Go.Proofs.YtmadfppacfmpeaaDoor
