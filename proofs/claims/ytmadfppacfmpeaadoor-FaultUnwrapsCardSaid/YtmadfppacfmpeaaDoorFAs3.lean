/- The contract of errors.as at the target **Fault: an operation outermost, or a code. -/
import Derived.Test.YtmadfppacfmpeaaDoorFAs2
open Go Go.RowKit Go.Extern.Stop Go.Stop Go.Extern
namespace Go.Proofs.YtmadfppacfmpeaaDoor

set_option maxRecDepth 20000 in
set_option maxHeartbeats 4000000 in
theorem as_first (p : Addr) (B tb vb : Nat) (old : Value) (w w0 : World) (L : List (Nat × Array Value × TypeId))
    (st : St B w0 ((vb, #[.pointer (some ⟨tb, 0, none⟩)], 54) :: (tb, #[old], 44) :: L) w) :
    Calls Tryd.prog 27 #[.iface 44 (.pointer (some p)), .iface 54 (.pointer (some ⟨tb, 0, none⟩)), .agg #[hnd 54, .pointer (some ⟨vb, 0, none⟩), .int .u64 150], .iface 71 (.agg #[hnd 44])] w
      fun e w' => e = .returned (.bool true) ∧ St B w0 ((tb, #[.pointer (some p)], 44) :: L) w' := by
  have hT := @run_callFunc_extern Tryd.prog 28 _ Extern.ReflectliteType.typeOf Tryd.func28 (by kernel_rfl) (by kernel_rfl) (by kernel_rfl) (by kernel_rfl)
  have hAs := @run_callFunc_extern Tryd.prog 68 _ assignEntry Tryd.func68 (by kernel_rfl) (by kernel_rfl) (by kernel_rfl) (by kernel_rfl)
  have hV := @run_callFunc_extern Tryd.prog 24 _ (fun args => ReflectliteValue.unpack (args.getD 0 (.tuple #[]))) Tryd.func24 (by kernel_rfl) (by kernel_rfl) (by kernel_rfl) (by kernel_rfl)
  have hEl := @run_callFunc_extern Tryd.prog 31 _ (ReflectliteValue.method (ReflectliteValue.valueError "reflectlite.Value.Elem" 0) ReflectliteValue.elem) Tryd.func31 (by kernel_rfl) (by kernel_rfl) (by kernel_rfl) (by kernel_rfl)
  have hSet := @run_callFunc_extern Tryd.prog 32 _ ReflectliteValue.set Tryd.func32 (by kernel_rfl) (by kernel_rfl) (by kernel_rfl) (by kernel_rfl)
  have tF := typeOfF
  have mA := methAssign
  have aF := asgFF
  have vF := valElF
  have st3 := st.new #[hnd 54, .pointer (some ⟨vb, 0, none⟩), .int .u64 150] 59
  have cv : (w.alloc (.cells #[hnd 54, .pointer (some ⟨vb, 0, none⟩), .int .u64 150] 59)).cell? ⟨vb, 0, none⟩ = some (.pointer (some ⟨tb, 0, none⟩)) := st3.cell (i := 1) rfl 0
  have el := elemVF ⟨vb, 0, none⟩ ⟨tb, 0, none⟩ _ cv
  have st4 := st3.new #[.pointer (some p)] 44
  have se := setF ⟨tb, 0, none⟩ ⟨w.heap.size + 1, 0, none⟩ p old ((w.alloc (.cells #[hnd 54, .pointer (some ⟨vb, 0, none⟩), .int .u64 150] 59)).alloc (.cells #[.pointer (some p)] 44)) (by simp) (st4.cell (i := 3) rfl 0) (st4.free (i := 3) rfl 0)
  go_enter Tryd.func27, Tryd.ntmps27
  go_wp2
  refine wp_loop_rounds 1 ?_
  rw [rounds_succ]
  go_wp2
  go_ret
  exact ⟨rfl, ((st4.set (i := 3) rfl 0 (.pointer (some p)) rfl).drop).drop.drop⟩

set_option maxRecDepth 20000 in
set_option maxHeartbeats 4000000 in
theorem as_noneF (c : Value) (B tb vb : Nat) (old : Value) (w w0 : World) (L : List (Nat × Array Value × TypeId))
    (st : St B w0 ((vb, #[.pointer (some ⟨tb, 0, none⟩)], 54) :: (tb, #[old], 44) :: L) w) :
    Calls Tryd.prog 27 #[.iface 31 c, .iface 54 (.pointer (some ⟨tb, 0, none⟩)), .agg #[hnd 54, .pointer (some ⟨vb, 0, none⟩), .int .u64 150], .iface 71 (.agg #[hnd 44])] w
      fun e w' => e = .returned (.bool false) ∧ St B w0 ((tb, #[old], 44) :: L) w' := by
  have hT := @run_callFunc_extern Tryd.prog 28 _ Extern.ReflectliteType.typeOf Tryd.func28 (by kernel_rfl) (by kernel_rfl) (by kernel_rfl) (by kernel_rfl)
  have hAs := @run_callFunc_extern Tryd.prog 68 _ assignEntry Tryd.func68 (by kernel_rfl) (by kernel_rfl) (by kernel_rfl) (by kernel_rfl)
  have tE := typeOfE
  have mA := methAssign
  have aE := asgEF
  have nE := noAsE
  have uE := noUnE
  have sE := noUsE
  have st3 := st.new #[hnd 54, .pointer (some ⟨vb, 0, none⟩), .int .u64 150] 59
  go_enter Tryd.func27, Tryd.ntmps27
  go_wp2
  refine wp_loop_rounds 1 ?_
  rw [rounds_succ]
  go_wp2
  go_ret
  exact ⟨rfl, st3.drop.drop⟩

end Go.Proofs.YtmadfppacfmpeaaDoor
