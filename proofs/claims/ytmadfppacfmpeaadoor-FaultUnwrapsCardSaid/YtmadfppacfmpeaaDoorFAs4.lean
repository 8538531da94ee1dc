/- The contract of errors.As at the targets *Errno and **Fault, given that of errors.as. -/
import Derived.Test.YtmadfppacfmpeaaDoorFAs3
open Go Go.RowKit Go.Extern.Stop Go.Stop Go.Extern
namespace Go.Proofs.YtmadfppacfmpeaaDoor

set_option maxRecDepth 20000 in
set_option maxHeartbeats 4000000 in
theorem AsE_of (t : TypeId) (u : Value) (r : Bool) (tb : Nat) (old new : Value) (w w0 : World) (L : List (Nat × Array Value × TypeId))
    (hg : w0.cell? ⟨0, 0, none⟩ = some (.iface 71 (.agg #[hnd 26])))
    (st : St w0.heap.size w0 ((tb, #[old], 31) :: L) w)
    (H : ∀ w1 vb, St w0.heap.size w0 ((vb, #[.pointer (some ⟨tb, 0, none⟩)], 51) :: (tb, #[old], 31) :: L) w1 → Calls Tryd.prog 27 #[.iface t u, .iface 51 (.pointer (some ⟨tb, 0, none⟩)), .agg #[hnd 51, .pointer (some ⟨vb, 0, none⟩), .int .u64 150], .iface 71 (.agg #[hnd 31])] w1
      fun e w' => e = .returned (.bool r) ∧ St w0.heap.size w0 ((tb, #[new], 31) :: L) w') :
    Calls Tryd.prog 21 #[.iface t u, .iface 51 (.pointer (some ⟨tb, 0, none⟩))] w fun e w' => e = .returned (.bool r) ∧ St w0.heap.size w0 ((tb, #[new], 31) :: L) w' := by
  have hV := @run_callFunc_extern Tryd.prog 24 _ (fun args => ReflectliteValue.unpack (args.getD 0 (.tuple #[]))) Tryd.func24 (by kernel_rfl) (by kernel_rfl) (by kernel_rfl) (by kernel_rfl)
  have h7 := @run_callFunc_extern Tryd.prog 25 _ (ReflectliteValue.methodAny (ReflectliteValue.valueError "reflectlite.Value.Type" 0) (fun t _ _ _ => ReflectliteType.toType t)) Tryd.func25 (by kernel_rfl) (by kernel_rfl) (by kernel_rfl) (by kernel_rfl)
  have h8 := @run_callFunc_extern Tryd.prog 26 _ (ReflectliteValue.method (ReflectliteValue.valueError "reflectlite.Value.IsNil" 0) ReflectliteValue.isNil) Tryd.func26 (by kernel_rfl) (by kernel_rfl) (by kernel_rfl) (by kernel_rfl)
  have h27 := @run_callFunc_extern Tryd.prog 59 _ (ReflectliteType.abiMethod fun t => (fun a : Nat => Value.int IntKind.u8 (a : Int)) <$> Rtype.kind t) Tryd.func59 (by kernel_rfl) (by kernel_rfl) (by kernel_rfl) (by kernel_rfl)
  have h37 := @run_callFunc_extern Tryd.prog 70 _ (ReflectliteType.method ReflectliteType.elem) Tryd.func70 (by kernel_rfl) (by kernel_rfl) (by kernel_rfl) (by kernel_rfl)
  have h38 := @run_callFunc_extern Tryd.prog 71 _ (ReflectliteType.relation "Implements" ReflectliteType.implements_) Tryd.func71 (by kernel_rfl) (by kernel_rfl) (by kernel_rfl) (by kernel_rfl)
  have f6 := valOfE
  have f7 := typE
  have mK := methKind
  have mE := methElem
  have mI := methImpl
  have k27 := kindTE
  have k25 := kindEE
  have e27 := elemE
  have i25 := implE
  have st1 := st.new #[.pointer (some ⟨tb, 0, none⟩)] 51
  have st2 := st1.new #[hnd 51, .pointer (some ⟨w.heap.size, 0, none⟩), .int .u64 150] 59
  have n8 := isNilE ⟨w.heap.size, 0, none⟩ ⟨tb, 0, none⟩ _ (st2.cell (i := 1) rfl 0)
  have hg2 := hg
  rw [← st2.below.cell (block_lt_of_cell hg)] at hg2
  have H1 := Lib.hid (H _ _ st2.drop)
  clear H
  go_enter Tryd.func21, Tryd.ntmps21
  go_wp2_with (first | (go_at_call 27; refine (H1.out).mono ?_; rintro e wn ⟨rfl, st5⟩))
  go_ret
  exact ⟨rfl, st5⟩

set_option maxRecDepth 20000 in
set_option maxHeartbeats 4000000 in
theorem AsF_of (t : TypeId) (u : Value) (r : Bool) (tb : Nat) (old new : Value) (w w0 : World) (L : List (Nat × Array Value × TypeId))
    (hg : w0.cell? ⟨0, 0, none⟩ = some (.iface 71 (.agg #[hnd 26])))
    (st : St w0.heap.size w0 ((tb, #[old], 44) :: L) w)
    (H : ∀ w1 vb, St w0.heap.size w0 ((vb, #[.pointer (some ⟨tb, 0, none⟩)], 54) :: (tb, #[old], 44) :: L) w1 → Calls Tryd.prog 27 #[.iface t u, .iface 54 (.pointer (some ⟨tb, 0, none⟩)), .agg #[hnd 54, .pointer (some ⟨vb, 0, none⟩), .int .u64 150], .iface 71 (.agg #[hnd 44])] w1
      fun e w' => e = .returned (.bool r) ∧ St w0.heap.size w0 ((tb, #[new], 44) :: L) w') :
    Calls Tryd.prog 21 #[.iface t u, .iface 54 (.pointer (some ⟨tb, 0, none⟩))] w fun e w' => e = .returned (.bool r) ∧ St w0.heap.size w0 ((tb, #[new], 44) :: L) w' := by
  have hV := @run_callFunc_extern Tryd.prog 24 _ (fun args => ReflectliteValue.unpack (args.getD 0 (.tuple #[]))) Tryd.func24 (by kernel_rfl) (by kernel_rfl) (by kernel_rfl) (by kernel_rfl)
  have h7 := @run_callFunc_extern Tryd.prog 25 _ (ReflectliteValue.methodAny (ReflectliteValue.valueError "reflectlite.Value.Type" 0) (fun t _ _ _ => ReflectliteType.toType t)) Tryd.func25 (by kernel_rfl) (by kernel_rfl) (by kernel_rfl) (by kernel_rfl)
  have h8 := @run_callFunc_extern Tryd.prog 26 _ (ReflectliteValue.method (ReflectliteValue.valueError "reflectlite.Value.IsNil" 0) ReflectliteValue.isNil) Tryd.func26 (by kernel_rfl) (by kernel_rfl) (by kernel_rfl) (by kernel_rfl)
  have h27 := @run_callFunc_extern Tryd.prog 59 _ (ReflectliteType.abiMethod fun t => (fun a : Nat => Value.int IntKind.u8 (a : Int)) <$> Rtype.kind t) Tryd.func59 (by kernel_rfl) (by kernel_rfl) (by kernel_rfl) (by kernel_rfl)
  have h37 := @run_callFunc_extern Tryd.prog 70 _ (ReflectliteType.method ReflectliteType.elem) Tryd.func70 (by kernel_rfl) (by kernel_rfl) (by kernel_rfl) (by kernel_rfl)
  have h38 := @run_callFunc_extern Tryd.prog 71 _ (ReflectliteType.relation "Implements" ReflectliteType.implements_) Tryd.func71 (by kernel_rfl) (by kernel_rfl) (by kernel_rfl) (by kernel_rfl)
  have f6 := valOfF
  have f7 := typF
  have mK := methKind
  have mE := methElem
  have mI := methImpl
  have k27 := kindTF
  have k25 := kindEF
  have e27 := elemF
  have i25 := implF
  have st1 := st.new #[.pointer (some ⟨tb, 0, none⟩)] 54
  have st2 := st1.new #[hnd 54, .pointer (some ⟨w.heap.size, 0, none⟩), .int .u64 150] 59
  have n8 := isNilF ⟨w.heap.size, 0, none⟩ ⟨tb, 0, none⟩ _ (st2.cell (i := 1) rfl 0)
  have hg2 := hg
  rw [← st2.below.cell (block_lt_of_cell hg)] at hg2
  have H1 := Lib.hid (H _ _ st2.drop)
  clear H
  go_enter Tryd.func21, Tryd.ntmps21
  go_wp2_with (first | (go_at_call 27; refine (H1.out).mono ?_; rintro e wn ⟨rfl, st5⟩))
  go_ret
  exact ⟨rfl, st5⟩

end Go.Proofs.YtmadfppacfmpeaaDoor
