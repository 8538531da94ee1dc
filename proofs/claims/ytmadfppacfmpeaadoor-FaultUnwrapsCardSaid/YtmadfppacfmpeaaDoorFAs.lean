/- The contract of errors.as at the target *Errno, the core a code. -/
import Derived.Test.YtmadfppacfmpeaaDoorFAsFacts4
open Go Go.RowKit Go.Extern.Stop Go.Stop Go.Extern
namespace Go.Proofs.YtmadfppacfmpeaaDoor

set_option maxRecDepth 20000 in
set_option maxHeartbeats 4000000 in
theorem as_code (l : List (ByteArray × Int)) (v : Value) (c : Int) (B tb vb : Nat) (old : Value) (w w0 : World) (L : List (Nat × Array Value × TypeId)) (h : IsErr w v l (.iface 31 (.int .i64 c)))
    (st : St B w0 ((vb, #[.pointer (some ⟨tb, 0, none⟩)], 51) :: (tb, #[old], 31) :: L) w) :
    Calls Tryd.prog 27 #[v, .iface 51 (.pointer (some ⟨tb, 0, none⟩)), .agg #[hnd 51, .pointer (some ⟨vb, 0, none⟩), .int .u64 150], .iface 71 (.agg #[hnd 31])] w
      fun e w' => e = .returned (.bool true) ∧ St B w0 ((tb, #[.int .i64 c], 31) :: L) w' := by
  have hT := @run_callFunc_extern Tryd.prog 28 _ Extern.ReflectliteType.typeOf Tryd.func28 (by kernel_rfl) (by kernel_rfl) (by kernel_rfl) (by kernel_rfl)
  have hAs := @run_callFunc_extern Tryd.prog 68 _ assignEntry Tryd.func68 (by kernel_rfl) (by kernel_rfl) (by kernel_rfl) (by kernel_rfl)
  have hV := @run_callFunc_extern Tryd.prog 24 _ (fun args => ReflectliteValue.unpack (args.getD 0 (.tuple #[]))) Tryd.func24 (by kernel_rfl) (by kernel_rfl) (by kernel_rfl) (by kernel_rfl)
  have hEl := @run_callFunc_extern Tryd.prog 31 _ (ReflectliteValue.method (ReflectliteValue.valueError "reflectlite.Value.Elem" 0) ReflectliteValue.elem) Tryd.func31 (by kernel_rfl) (by kernel_rfl) (by kernel_rfl) (by kernel_rfl)
  have hSet := @run_callFunc_extern Tryd.prog 32 _ ReflectliteValue.set Tryd.func32 (by kernel_rfl) (by kernel_rfl) (by kernel_rfl) (by kernel_rfl)
  have tF := typeOfF
  have tE := typeOfE
  have mA := methAssign
  have aF := asgFE
  have aE := asgEE
  have nF := noAsF
  have hF := hasUnF
  have mU := methUnF
  have vE := valElE
  have Hh := Lib.hid h
  clear h
  go_enter Tryd.func27, Tryd.ntmps27
  have st1 := st.new #[hnd 51, .pointer (some ⟨vb, 0, none⟩), .int .u64 150] 59
  have Hh1 := Lib.hid (Hh.out.call ((Below.refl _ _).alloc (Nat.le_refl _) (.cells #[hnd 51, .pointer (some ⟨vb, 0, none⟩), .int .u64 150] 59)))
  go_wp2
  go_loopw [0] (fun err wr => St B w0 ((w.heap.size, #[hnd 51, .pointer (some ⟨vb, 0, none⟩), .int .u64 150], 59) :: (vb, #[.pointer (some ⟨tb, 0, none⟩)], 51) :: (tb, #[old], 31) :: L) wr ∧ ∃ l, IsErr wr err l (.iface 31 (.int .i64 c))) (fun err wr => errLen (.iface 31 (.int .i64 c)) wr err)
  case atStart => exact ⟨st1, l, Hh1.out⟩
  case round =>
    obtain ⟨st3, l', h⟩ := hrel
    cases l' with
    | nil =>
      obtain rfl := h
      have c60 : wr.cell? ⟨w.heap.size, 0, none⟩ = some (hnd 51) := st3.cell (i := 0) rfl 0
      have c61 : wr.cell? ⟨w.heap.size, 1, none⟩ = some (.pointer (some ⟨vb, 0, none⟩)) := st3.cell (i := 0) rfl 1
      have c62 : wr.cell? ⟨w.heap.size, 2, none⟩ = some (.int .u64 150) := st3.cell (i := 0) rfl 2
      have cv : wr.cell? ⟨vb, 0, none⟩ = some (.pointer (some ⟨tb, 0, none⟩)) := by simp [World.cell?, st3.at (i := 1) rfl]
      have el := elemVE ⟨vb, 0, none⟩ ⟨tb, 0, none⟩ wr cv
      have st4 := st3.new #[.int .i64 c] 31
      have se := setE ⟨tb, 0, none⟩ ⟨wr.heap.size, 0, none⟩ c old (wr.alloc (.cells #[.int .i64 c] 31)) (st4.cell (i := 0) rfl 0) (st4.cell (i := 3) rfl 0) (st4.free (i := 3) rfl 0)
      go_wp2
      go_ret
      exact ⟨rfl, ((st4.set (i := 3) rfl 0 (.int .i64 c) rfl).drop).drop.drop⟩
    | cons s l' =>
      obtain ⟨b, inner, rfl, hc, hi⟩ := h
      obtain ⟨it, iu, rfl⟩ := hi.iface
      have h2 : wr.cell? ⟨b, 2, none⟩ = some (.iface it iu) := by simp [World.cell?, hc]
      have m0 := errLen_eq (by decide) (show IsErr wr (.iface 44 (.pointer (some ⟨b, 0, none⟩))) (s :: l') (.iface 31 (.int .i64 c)) from ⟨b, _, rfl, hc, hi⟩)
      have m1 := errLen_eq (by decide) hi
      have Hm : Hid (errLen (.iface 31 (.int .i64 c)) wr (.iface it iu) < errLen (.iface 31 (.int .i64 c)) wr (.iface 44 (.pointer (some ⟨b, 0, none⟩)))) := by
        unfold Hid
        rw [m0, m1]
        exact Nat.lt_succ_self _
      have Hi := Lib.hid hi
      clear m0 m1 hc hi
      go_wp2
      go_roundw
      case rel => exact ⟨st3, l', Hi.out⟩
      case measure => exact Hm.out

end Go.Proofs.YtmadfppacfmpeaaDoor
