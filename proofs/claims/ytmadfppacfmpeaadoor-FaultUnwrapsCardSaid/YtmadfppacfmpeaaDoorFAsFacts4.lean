/- (Value).Set and ValueOf of the error at the targets *Errno and **Fault (after the worked example Toyas). -/
import Derived.Test.YtmadfppacfmpeaaDoorFAsFacts3
open Go Go.RowKit Go.Extern.Stop Go.Stop Go.Extern
namespace Go.Proofs.YtmadfppacfmpeaaDoor

theorem rls (v x : Value) : ReflectliteValue.set #[v, x] = (do
    let (some (dst, a, fl), some (src, b, _)) := (← ReflectliteValue.parts v, ← ReflectliteValue.parts x)
      | unsupported (.noEntry "extern/(internal/reflectlite.Value).Set.zeroValue")
    if fl / ReflectliteValue.flagAddr % 2 == 0 then unsupported (.noEntry "extern/(internal/reflectlite.Value).Set.unaddressable")
    let val ← loadVar src b
    if ← Rtype.directlyAssignable dst src then storeVar dst a val
    else if ← Rtype.implements dst src then
      if (← Rtype.kind src) == 20 then
        match val with
        | .nilIface => unsupported (.noEntry "extern/reflectlite: a nil value of one interface type handed on as a value of another")
        | _ => storeVar dst a val
      else storeVar dst a (.iface src val)
    else panicString ("reflectlite.Set: value of type " ++ (← Rtype.spelt src) ++ " is not assignable to type " ++ (← Rtype.spelt dst))
    pure (.tuple #[])) := rfl
theorem valElE (c : Int) (w : World) : (ReflectliteValue.unpack (.iface 31 (.int .i64 c))).run Tryd.prog w = .ok (.agg #[hnd 31, .pointer (some ⟨w.heap.size, 0, none⟩), .int .u64 130]) (w.alloc (.cells #[.int .i64 c] 31)) := by kernel_rfl
theorem partsAE (a : Addr) (w : World) : (ReflectliteValue.parts (.agg #[hnd 31, .pointer (some a), .int .u64 386])).run Tryd.prog w = .ok (some (31, a, 386)) w := by kernel_rfl
theorem partsVE (a : Addr) (w : World) : (ReflectliteValue.parts (.agg #[hnd 31, .pointer (some a), .int .u64 130])).run Tryd.prog w = .ok (some (31, a, 130)) w := by kernel_rfl
theorem directE (w : World) : (Rtype.directlyAssignable 31 31).run Tryd.prog w = .ok true w := by kernel_rfl
theorem size1E (w : World) : (sizeOf 31).run Tryd.prog w = .ok 1 w := by kernel_rfl
theorem setE (ta b : Addr) (c : Int) (old : Value) (W : World) (hb : W.cell? b = some (.int .i64 c)) (ht : W.cell? ta = some old) (hf : W.frozen? ta = false) :
    (ReflectliteValue.set #[.agg #[hnd 31, .pointer (some ta), .int .u64 386], .agg #[hnd 31, .pointer (some b), .int .u64 130]]).run Tryd.prog W = .ok (.tuple #[]) (W.setCell ta (.int .i64 c)) := by
  rw [rls]
  simp only [Sem.run_bind, partsAE, partsVE, Result.andThen]
  simp [ReflectliteValue.flagAddr, loadVar, isAgg, underlying, Tryd.underlying31, hb, Result.andThen, directE, storeVar, Value.cells, storeCells, Addr.add]
  rw [run_store Tryd.prog W ta _ _ (by rfl)]
  simp [ht, hf]
theorem valElF (c : Addr) (w : World) : (ReflectliteValue.unpack (.iface 44 (.pointer (some c)))).run Tryd.prog w = .ok (.agg #[hnd 44, .pointer (some ⟨w.heap.size, 0, none⟩), .int .u64 150]) (w.alloc (.cells #[.pointer (some c)] 44)) := by kernel_rfl
theorem partsAF (a : Addr) (w : World) : (ReflectliteValue.parts (.agg #[hnd 44, .pointer (some a), .int .u64 406])).run Tryd.prog w = .ok (some (44, a, 406)) w := by kernel_rfl
theorem partsVF (a : Addr) (w : World) : (ReflectliteValue.parts (.agg #[hnd 44, .pointer (some a), .int .u64 150])).run Tryd.prog w = .ok (some (44, a, 150)) w := by kernel_rfl
theorem directF (w : World) : (Rtype.directlyAssignable 44 44).run Tryd.prog w = .ok true w := by kernel_rfl
theorem size1F (w : World) : (sizeOf 44).run Tryd.prog w = .ok 1 w := by kernel_rfl
theorem setF (ta b : Addr) (c : Addr) (old : Value) (W : World) (hb : W.cell? b = some (.pointer (some c))) (ht : W.cell? ta = some old) (hf : W.frozen? ta = false) :
    (ReflectliteValue.set #[.agg #[hnd 44, .pointer (some ta), .int .u64 406], .agg #[hnd 44, .pointer (some b), .int .u64 150]]).run Tryd.prog W = .ok (.tuple #[]) (W.setCell ta (.pointer (some c))) := by
  rw [rls]
  simp only [Sem.run_bind, partsAF, partsVF, Result.andThen]
  simp [ReflectliteValue.flagAddr, loadVar, isAgg, underlying, Tryd.underlying44, hb, Result.andThen, directF, storeVar, Value.cells, storeCells, Addr.add]
  rw [run_store Tryd.prog W ta _ _ (by rfl)]
  simp [ht, hf]

end Go.Proofs.YtmadfppacfmpeaaDoor
