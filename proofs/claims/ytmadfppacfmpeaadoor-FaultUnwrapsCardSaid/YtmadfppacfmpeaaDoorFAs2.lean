/- The contract of errors.as at the target *Errno, the core an error without a code. -/
import Derived.Test.YtmadfppacfmpeaaDoorFAs
open Go Go.RowKit Go.Extern.Stop Go.Stop Go.Extern
namespace Go.Proofs.YtmadfppacfmpeaaDoor

set_option maxRecDepth 20000 in
set_option maxHeartbeats 4000000 in
theorem as_plain (l : List (ByteArray × Int)) (v : Value) (u : Value) (B tb vb : Nat) (old : Value) (w w0 : World) (L : List (Nat × Array Value × TypeId)) (h : IsErr w v l (.iface 47 u))
    (st : St B w0 ((vb, #[.pointer (some ⟨tb, 0, none⟩)], 51) :: (tb, #[old], 31) :: L) w) :
    Calls Tryd.prog 27 #[v, .iface 51 (.pointer (some ⟨tb, 0, none⟩)), .agg #[hnd 51, .pointer (some ⟨vb, 0, none⟩), .int .u64 150], .iface 71 (.agg #[hnd 31])] w
      fun e w' => e = .returned (.bool false) ∧ St B w0 ((tb, #[old], 31) :: L) w' := by
  have hT := @run_callFunc_extern Tryd.prog 28 _ Extern.ReflectliteType.typeOf Tryd.func28 (by kernel_rfl) (by kernel_rfl) (by kernel_rfl) (by kernel_rfl)
  have hAs := @run_callFunc_extern Tryd.prog 68 _ assignEntry Tryd.func68 (by kernel_rfl) (by kernel_rfl) (by kernel_rfl) (by kernel_rfl)
  have tF := typeOfF
  have tE := typeOfP
  have mA := methAssign
  have aF := asgFE
  have aE := asgPE
  have nF := noAsF
  have nP := noAsP
  have uP := noUnP
  have sP := noUsP
  have hF := hasUnF
  have mU := methUnF
  have Hh := Lib.hid h
  clear h
  go_enter Tryd.func27, Tryd.ntmps27
  have st1 := st.new #[hnd 51, .pointer (some ⟨vb, 0, none⟩), .int .u64 150] 59
  have Hh1 := Lib.hid (Hh.out.call ((Below.refl _ _).alloc (Nat.le_refl _) (.cells #[hnd 51, .pointer (some ⟨vb, 0, none⟩), .int .u64 150] 59)))
  go_wp2
  go_loopw [0] (fun err wr => St B w0 ((w.heap.size, #[hnd 51, .pointer (some ⟨vb, 0, none⟩), .int .u64 150], 59) :: (vb, #[.pointer (some ⟨tb, 0, none⟩)], 51) :: (tb, #[old], 31) :: L) wr ∧ ∃ l, IsErr wr err l (.iface 47 u)) (fun err wr => errLen (.iface 47 u) wr err)
  case atStart => exact ⟨st1, l, Hh1.out⟩
  case round =>
    obtain ⟨st3, l', h⟩ := hrel
    cases l' with
    | nil =>
      obtain rfl := h
      go_wp2
      go_ret
      exact ⟨rfl, st3.drop.drop⟩
    | cons s l' =>
      obtain ⟨b, inner, rfl, hc, hi⟩ := h
      obtain ⟨it, iu, rfl⟩ := hi.iface
      have h2 : wr.cell? ⟨b, 2, none⟩ = some (.iface it iu) := by simp [World.cell?, hc]
      have m0 := errLen_eq (by decide) (show IsErr wr (.iface 44 (.pointer (some ⟨b, 0, none⟩))) (s :: l') (.iface 47 u) from ⟨b, _, rfl, hc, hi⟩)
      have m1 := errLen_eq (by decide) hi
      have Hm : Hid (errLen (.iface 47 u) wr (.iface it iu) < errLen (.iface 47 u) wr (.iface 44 (.pointer (some ⟨b, 0, none⟩)))) := by
        unfold Hid
        rw [m0, m1]
        exact Nat.lt_succ_self _
      have Hi := Lib.hid hi
      clear m0 m1 hc hi
      go_wp2
      go_roundw
      case rel => exact ⟨st3, l', Hi.out⟩
      case measure => exact Hm.out

end Go.Proofs.YtmadfppacfmpeaaDoor
