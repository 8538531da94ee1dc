/- The contract of fault.Ops. -/
import Derived.Test.YtmadfppacfmpeaaDoorFSl
open Go Go.RowKit Go.Extern.Stop Go.Stop Go.Extern
namespace Go.Proofs.YtmadfppacfmpeaaDoor

/-- The operations of a list, as cells. -/
def opCells (l : List (ByteArray × Int)) : List Value := l.map fun s => Value.string s.1
theorem opCells_len (l : List (ByteArray × Int)) : (opCells l).length = l.length := by simp [opCells]
theorem opCells_app (l : List (ByteArray × Int)) (s : ByteArray × Int) : opCells (l ++ [s]) = opCells l ++ [.string s.1] := by simp [opCells]

theorem asFF (p : Value) (w : World) : (Instr.typeAssert (.iface 44 p) 26 44 true).run Tryd.prog w = .ok (.tuple #[p, .bool true]) w := by kernel_rfl
theorem asFE (p : Value) (w : World) : (Instr.typeAssert (.iface 31 p) 26 44 true).run Tryd.prog w = .ok (.tuple #[.pointer none, .bool false]) w := by kernel_rfl
theorem asFP (p : Value) (w : World) : (Instr.typeAssert (.iface 47 p) 26 44 true).run Tryd.prog w = .ok (.tuple #[.pointer none, .bool false]) w := by kernel_rfl
theorem asFN (w : World) : (Instr.typeAssert .nilIface 26 44 true).run Tryd.prog w = .ok (.tuple #[.pointer none, .bool false]) w := by kernel_rfl
theorem fillS (x : ByteArray) : Instr.fill (fun i => some (i * 1, 1)) ((Array.range (1 * 1)).map ((Value.string ⟨#[]⟩).cells[· % (Value.string ⟨#[]⟩).cells.size]!)) [(0, .string x)] = some #[.string x] := by kernel_rfl

theorem Ops_nil (w : World) : Calls Tryd.prog 15 #[.nilIface] w fun e w' => e = .returned (.slice none 0 0) ∧ w' = w := by
  have hn := asFN
  go_enter Tryd.func15, Tryd.ntmps15
  go_wp2
  refine wp_loop_rounds 1 ?_
  rw [rounds_succ]
  go_wp2
  go_ret
  exact ⟨rfl, rfl⟩

set_option maxHeartbeats 2000000 in
theorem Ops_calls (l : List (ByteArray × Int)) (v : Value) (t : TypeId) (u : Value) (w : World) (ht : t ≠ 44)
    (hno : ∀ w, (Instr.typeAssert (.iface t u) 26 44 true).run Tryd.prog w = .ok (.tuple #[.pointer none, .bool false]) w) (h : IsErr w v l (.iface t u)) (hl : l.length ≤ 1000) :
    Calls Tryd.prog 15 #[v] w fun e w' => ∃ r, e = .returned r ∧ RdC w' r (opCells l) ∧ Below w.heap.size w w' := by
  have hF := asFF
  have HL := Lib.hid hl
  have Hh := Lib.hid h
  clear h hl
  have st := St.init w
  go_enter Tryd.func15, Tryd.ntmps15
  go_wp2
  go_loopw [0, 3] (fun err out wr => ∃ d l', IsErr w err l' (.iface t u) ∧ St w.heap.size w [] wr ∧ wr.ownsRow w.heap.size 9 1 out d.length (opCells d) ∧ d ++ l' = l) (fun err _ _ => errLen (.iface t u) w err)
  case atStart => exact ⟨[], l, Hh.out, st, World.ownsRow_nil _ _ _ _, rfl⟩
  case round =>
    obtain ⟨d, l', h, st3, hown, hdl⟩ := hrel
    clear st
    cases l' with
    | nil =>
      obtain rfl := h
      have Hown := Lib.hid hown
      clear hown
      go_wp2
      go_ret
      rw [List.append_nil] at hdl
      subst hdl
      exact ⟨_, rfl, RdC.of_own (by rw [opCells_len]) Hown.out, st3.below⟩
    | cons s l' =>
      obtain ⟨b, inner, rfl, hc, hi⟩ := h
      have h0 : wr.cell? ⟨b, 0, none⟩ = some (.string s.1) := by rw [st3.below.cell (heap_lt hc)]; simp [World.cell?, hc]
      have h2w : w.cell? ⟨b, 2, none⟩ = some inner := by simp [World.cell?, hc]
      have m0 := errLen_eq ht (show IsErr w (.iface 44 (.pointer (some ⟨b, 0, none⟩))) (s :: l') (.iface t u) from ⟨b, _, rfl, hc, hi⟩)
      have m1 := errLen_eq ht hi
      have Hm : Hid (errLen (.iface t u) w inner < errLen (.iface t u) w (.iface 44 (.pointer (some ⟨b, 0, none⟩)))) := by
        unfold Hid
        rw [m0, m1]
        exact Nat.lt_succ_self _
      have hdl' : Hid ((d ++ [s]) ++ l' = l) := by unfold Hid; rw [← hdl]; simp
      have hd : d.length + 1 ≤ 1000 := by have := HL.out; rw [← hdl] at this; simp at this; omega
      have Hd := Lib.hid hd
      have Hi := Lib.hid hi
      have Hown := Lib.hid hown
      have Hdc : Hid (opCells (d ++ [s]) = opCells d ++ [.string s.1]) := opCells_app d s
      clear m0 m1 hc hi hown hdl hd HL
      generalize s.1 = S at *
      go_wp2_with (first
        | (refine wpList_buildSlice st3 rfl 35 1 _ rfl 9 Tryd.underlying35 (.string ⟨#[]⟩) 1 (by kernel_rfl) (by kernel_rfl) (by omega) (by omega) [(0, .string S)] ?_ _ (fillS S) ?_; · (simp [Act.eval]; done)
           intro b4 w4 st4 hb4)
        | (refine wpList_appendOwn (base := w.heap.size) st4.drop (by simp) (Nat.le_refl _) rfl _ _ 35 rfl 9 (.string ⟨#[]⟩) 1 16 Tryd.underlying35 (by kernel_rfl) (by kernel_rfl) (by kernel_rfl) rfl (by omega) _ d.length (opCells d) rfl (own_call Hown.out hb4) b4 1 1 #[.string S] 9 rfl rfl (st4.at (i := 0) rfl) (by intro q hq; simp at hq; subst hq; rfl) (by have := Hd.out; unfold maxLen; omega) (by have := Hd.out; omega) st4.size ?_
           intro v5 w5 st5 own5 _ hs5; have h25 := h2w; rw [← st5.below.cell (block_lt_of_cell h2w)] at h25))
      go_roundw
      case rel => exact ⟨d ++ [s], l', Hi.out, st5, by rw [Hdc.out, List.length_append]; exact own5, hdl'.out⟩
      case measure => exact Hm.out

end Go.Proofs.YtmadfppacfmpeaaDoor
