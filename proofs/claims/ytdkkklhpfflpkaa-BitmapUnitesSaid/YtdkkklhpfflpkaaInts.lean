/- Rows of ints as cells. -/
import Derived.Test.YtdkkklhpfflpkaaProg
import Derived.Test.YtdkkklhpfflpkaaBase
open Go Go.RowKit
namespace Go.Proofs.Ytdkkklhpfflpkaa

/-- A row of ints as cells. -/
def iv (l : List Int) : Array Value := (l.map fun n => Value.int .i64 n).toArray
theorem iv_size (l : List Int) : (iv l).size = l.length := by simp [iv]
theorem iv_get (l : List Int) (i : Nat) (h : i < l.length) : (iv l)[i]? = some (.int .i64 (l.getD i 0)) := by simp [iv, h]
theorem iv_set (l : List Int) (j : Nat) (x : Int) : (iv l).setIfInBounds j (.int .i64 x) = iv (l.set j x) := by unfold iv; simp [List.map_set]
theorem iv_made (n : Nat) : madeCells (Value.int .i64 0).cells (n * 1) = iv (List.replicate n 0) := by
  unfold madeCells iv
  apply Array.ext_getElem?
  intro i
  by_cases h : i < n <;> simp [h, Value.cells, Nat.mod_one]

theorem zeroInt : (Try.prog.info? 3).bind (·.zero) = some (.int .i64 0) := by kernel_rfl
theorem sizeInt : (Try.prog.info? 3).map (·.size) = some 1 := by kernel_rfl
theorem bytesInt : (Try.prog.info? 3).map (·.bytes) = some 8 := by kernel_rfl
theorem sliceInt : Try.prog.underlying 30 = some (.slice 3) := by kernel_rfl

theorem getD_extI {a b : List Int} (h : a.length = b.length) (he : ∀ k < a.length, a.getD k 0 = b.getD k 0) : a = b := by
  apply List.ext_getElem h
  intro k h1 h2
  have := he k h1
  simpa [List.getD_eq_getElem?_getD, h1, h2] using this

end Go.Proofs.Ytdkkklhpfflpkaa
