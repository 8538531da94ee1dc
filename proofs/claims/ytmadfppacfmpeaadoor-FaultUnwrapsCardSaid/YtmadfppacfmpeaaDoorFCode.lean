/- The contracts of fault.Code and fault.First. -/
import Derived.Test.YtmadfppacfmpeaaDoorFAs4
import Derived.OwnWalk
open Go Go.RowKit Go.Extern.Stop Go.Stop Go.Extern
namespace Go.Proofs.YtmadfppacfmpeaaDoor

/-- The cell of errors.errorType. -/
def GotET (w : World) : Prop := w.cell? ⟨0, 0, none⟩ = some (.iface 71 (.agg #[hnd 26]))
theorem GotET.call {w w' : World} (h : GotET w) (hb : Below w.heap.size w w') : GotET w' := by
  unfold GotET at *
  rw [hb.cell (block_lt_of_cell h)]
  exact h

theorem Code_nil (w : World) : Calls Tryd.prog 13 #[.nilIface] w fun e w' => e = .returned (.int .i64 0) ∧ Below w.heap.size w w' := by
  have st1 := (St.init w).new #[.int .i64 0] 31
  go_enter Tryd.func13, Tryd.ntmps13
  go_wp2
  go_ret
  exact ⟨rfl, st1.below⟩

set_option maxHeartbeats 1000000 in
theorem Code_code (l : List (ByteArray × Int)) (v : Value) (c : Int) (w : World) (hg : GotET w) (h : IsErr w v l (.iface 31 (.int .i64 c))) :
    Calls Tryd.prog 13 #[v] w fun e w' => e = .returned (.int .i64 c) ∧ Below w.heap.size w w' := by
  have st1 := (St.init w).new #[.int .i64 0] 31
  obtain ⟨t, u, rfl⟩ := h.iface
  have H1 := Lib.hid (AsE_of t u true w.heap.size (.int .i64 0) (.int .i64 c) _ w [] hg st1 (fun w1 vb st => as_code l _ c _ _ vb _ _ _ _ (h.call st.below) st))
  clear h hg
  go_enter Tryd.func13, Tryd.ntmps13
  go_wp2_with (first | (go_at_call 21; refine (H1.out).mono ?_; rintro e wn ⟨rfl, st5⟩; have c0 := st5.cell (i := 0) rfl 0))
  go_ret
  exact ⟨rfl, st5.below⟩

set_option maxHeartbeats 1000000 in
theorem Code_plain (l : List (ByteArray × Int)) (v : Value) (pu : Value) (w : World) (hg : GotET w) (h : IsErr w v l (.iface 47 pu)) :
    Calls Tryd.prog 13 #[v] w fun e w' => e = .returned (.int .i64 16) ∧ Below w.heap.size w w' := by
  have st1 := (St.init w).new #[.int .i64 0] 31
  obtain ⟨t, u, rfl⟩ := h.iface
  have H1 := Lib.hid (AsE_of t u false w.heap.size (.int .i64 0) (.int .i64 0) _ w [] hg st1 (fun w1 vb st => as_plain l _ pu _ _ vb _ _ _ _ (h.call st.below) st))
  clear h hg
  go_enter Tryd.func13, Tryd.ntmps13
  go_wp2_with (first | (go_at_call 21; refine (H1.out).mono ?_; rintro e wn ⟨rfl, st5⟩))
  go_ret
  exact ⟨rfl, st5.below⟩

set_option maxHeartbeats 1000000 in
theorem First_code (c : Value) (w : World) (hg : GotET w) :
    Calls Tryd.prog 16 #[.iface 31 c] w fun e w' => e = .returned (.tuple #[.string ⟨#[]⟩, .int .i64 0, .bool false]) ∧ Below w.heap.size w w' := by
  have st1 := (St.init w).new #[.pointer none] 44
  have H1 := Lib.hid (AsF_of 31 c false w.heap.size (.pointer none) (.pointer none) _ w [] hg st1 (fun w1 vb st => as_noneF c _ _ vb _ _ _ _ st))
  clear hg
  go_enter Tryd.func16, Tryd.ntmps16
  go_wp2_with (first | (go_at_call 21; refine (H1.out).mono ?_; rintro e wn ⟨rfl, st5⟩))
  go_ret3
  exact ⟨rfl, st5.below⟩

set_option maxHeartbeats 1000000 in
theorem First_cons (op : ByteArray) (n : Int) (l : List (ByteArray × Int)) (v core : Value) (w : World) (hg : GotET w) (h : IsErr w v ((op, n) :: l) core) :
    Calls Tryd.prog 16 #[v] w fun e w' => e = .returned (.tuple #[.string op, .int .i64 n, .bool true]) ∧ Below w.heap.size w w' := by
  obtain ⟨b, inner, rfl, hc, hi⟩ := h
  clear hi
  have st1 := (St.init w).new #[.pointer none] 44
  have H1 := Lib.hid (AsF_of 44 (.pointer (some ⟨b, 0, none⟩)) true w.heap.size (.pointer none) (.pointer (some ⟨b, 0, none⟩)) _ w [] hg st1 (fun w1 vb st => as_first _ _ _ vb _ _ _ _ st))
  clear hg
  have h0 : w.cell? ⟨b, 0, none⟩ = some (.string op) := by simp [World.cell?, hc]
  have h1 : w.cell? ⟨b, 1, none⟩ = some (.int .i64 n) := by simp [World.cell?, hc]
  clear hc
  go_enter Tryd.func16, Tryd.ntmps16
  go_wp2_with (first | (go_at_call 21; refine (H1.out).mono ?_; rintro e wn ⟨rfl, st5⟩; have c0 := st5.cell (i := 0) rfl 0; have g0 := h0; have g1 := h1; rw [← st5.below.cell (block_lt_of_cell h0)] at g0; rw [← st5.below.cell (block_lt_of_cell h1)] at g1) | go_region)
  go_ret3
  exact ⟨rfl, st5.drew.below⟩

end Go.Proofs.YtmadfppacfmpeaaDoor
