/- The contract of Directions of package bits: a new slice of the first bits. -/
import Derived.Test.YtdkkklhpfflpkaaRefPrefix
open Go Go.RowKit
namespace Go.Proofs.Ytdkkklhpfflpkaa

/-- A row of ints as cells. -/
def iv (l : List Int) : Array Value := (l.map fun n => Value.int .i64 n).toArray
theorem iv_size (l : List Int) : (iv l).size = l.length := by simp [iv]
theorem iv_get (l : List Int) (i : Nat) (h : i < l.length) : (iv l)[i]? = some (.int .i64 (l.getD i 0)) := by simp [iv, h]
theorem iv_set (l : List Int) (j : Nat) (x : Int) : (iv l).setIfInBounds j (.int .i64 x) = iv (l.set j x) := by unfold iv; simp [List.map_set]
theorem iv_made (n : Nat) : madeCells (Value.int .i64 0).cells (n * 1) = iv (List.replicate n 0) := by
  unfold madeCells iv
  apply Array.ext_getElem?
  intro i
  by_cases h : i < n <;> simp [h, Value.cells, Nat.mod_one]

theorem zeroInt : (Try.prog.info? 3).bind (·.zero) = some (.int .i64 0) := by kernel_rfl
theorem sizeInt : (Try.prog.info? 3).map (·.size) = some 1 := by kernel_rfl
theorem bytesInt : (Try.prog.info? 3).map (·.bytes) = some 8 := by kernel_rfl
theorem sliceInt : Try.prog.underlying 30 = some (.slice 3) := by kernel_rfl

/-- The row after k rounds: c numbers, the first k of them bits. -/
def dirR (l : List Nat) (c k : Nat) : List Int := (List.range c).map fun i => if i < k then (bitN l i : Int) else 0
def dirL (l : List Nat) (c : Nat) : List Int := dirR l c c
theorem dirR_len (l : List Nat) (c k : Nat) : (dirR l c k).length = c := by simp [dirR]
theorem dirR_get (l : List Nat) (c k i : Nat) (h : i < c) : (dirR l c k).getD i 0 = if i < k then (bitN l i : Int) else 0 := by
  unfold dirR
  rw [List.getD_eq_getElem?_getD, List.getElem?_map, List.getElem?_range h]; rfl
theorem getD_extI {a b : List Int} (h : a.length = b.length) (he : ∀ k < a.length, a.getD k 0 = b.getD k 0) : a = b := by
  apply List.ext_getElem h
  intro k h1 h2
  have := he k h1
  simpa [List.getD_eq_getElem?_getD, h1, h2] using this
theorem dirR_zero (l : List Nat) (c : Nat) : List.replicate c 0 = dirR l c 0 :=
  getD_extI (by rw [dirR_len]; simp) fun i hi => by
    rw [List.length_replicate] at hi
    rw [dirR_get l c 0 i hi, if_neg (by omega)]
    simp [List.getD_eq_getElem?_getD, hi]
theorem dirR_step (l : List Nat) (c k : Nat) (hk : k < c) : (dirR l c k).set k (bitN l k : Int) = dirR l c (k + 1) :=
  getD_extI (by rw [List.length_set, dirR_len, dirR_len]) fun i hi => by
    rw [List.length_set, dirR_len] at hi
    rw [dirR_get l c (k + 1) i hi]
    by_cases hik : i = k
    · subst hik
      rw [List.getD_eq_getElem?_getD, List.getElem?_set_self (by rw [dirR_len]; exact hi), if_pos (by omega)]; rfl
    · rw [List.getD_eq_getElem?_getD, List.getElem?_set_ne (fun h => hik h.symm), ← List.getD_eq_getElem?_getD, dirR_get l c k i hi]
      by_cases h : i < k
      · rw [if_pos h, if_pos (by omega)]
      · rw [if_neg h, if_neg (by omega)]

/-- A value that is a new slice of these numbers, in new memory. -/
def IsInts (w w' : World) (l : List Int) (e : Ending) : Prop := ∃ g, e = .returned (.slice (some ⟨g, 0, none⟩) l.length l.length) ∧ w.heap.size ≤ g ∧ w'.heap[g]? = some (.cells (iv l) 3 (0, 0)) ∧ Below w.heap.size w w'

theorem clamp_walk (n : Int) : min (max n 0) 256 = (clampN n : Int) := by unfold clampN; omega

set_option maxHeartbeats 1000000 in
theorem Directions_calls (l : List Nat) (hk : Key l) (n : Int) (w : World) :
    Calls Try.prog 26 #[.agg (kv l), .int .i64 n] w fun e w' => IsInts w w' (dirL l (clampN n)) e := by
  have HK := Lib.hid hk
  have hlen := Lib.hid hk.len
  clear hk
  have hc := clamp_walk n
  have hc8 : clampN n ≤ 256 := by unfold clampN; omega
  have st := St.init w
  go_enter Try.func26, Try.ntmps26
  go_wp2_with (first | (refine wpList_boxA (by assumption) rfl 23 _ rfl _ rfl ?_; intro b1 w1 st1; clear st) | (refine wpList_make st1 rfl 30 _ _ rfl 3 _ 1 8 sliceInt zeroInt sizeInt bytesInt .i64 .i64 (clampN n : Int) (clampN n : Int) rfl rfl (by omega) (by omega) (by omega) (by omega) ?_; intro b2 w2 st2; clear st1))
  rw [Int.toNat_natCast, iv_made, dirR_zero l] at st2
  clear hc
  go_loopw [13] (fun i wr => ∃ k : Int, 0 ≤ k ∧ k ≤ (clampN n : Int) ∧ i = .int .i64 k ∧ St w.heap.size w [(b2, iv (dirR l (clampN n) k.toNat), 3), (b1, kv l, 23)] wr) (fun i _ => ((clampN n : Int) - intOf i).toNat)
  case atStart => exact ⟨0, by omega, by omega, rfl, st2⟩
  case round =>
    obtain ⟨k, k0, k1, rfl, st3⟩ := hrel
    clear st2
    by_cases hlt : k < (clampN n : Int)
    · have Hc : Hid (∀ wx : World, Calls Try.prog 16 #[.agg (kv l), .int .i64 k] wx fun e w' => e = .returned (.int .i64 (bitN l k.toNat : Nat)) ∧ Below wx.heap.size wx w') := fun wx => Bit_in l HK.out k k0 (by omega) wx
      have hstep := dirR_step l (clampN n) k.toNat (by omega)
      have Hset : Hid ((iv (dirR l (clampN n) k.toNat)).setIfInBounds k.toNat (.int .i64 ((bitN l k.toNat : Nat) : Int)) = iv (dirR l (clampN n) (k + 1).toNat)) := by
        unfold Hid
        rw [iv_set, hstep, show (k + 1).toNat = k.toNat + 1 by omega]
      have hdl : Hid ((dirR l (clampN n) k.toNat).length = clampN n) := dirR_len _ _ _
      clear hstep
      generalize ((bitN l k.toNat : Nat) : Int) = X at *
      go_wp2_with (first | (refine wpList_loadR rfl 23 _ rfl b1 rfl _ aggKey rfl _ _ (St.at (by assumption) (i := 1) rfl) (sizeKv hlen.out) ?_) | (go_at_call 16; refine (Hc.out _).mono ?_; rintro e w4 ⟨rfl, hbel⟩; have st4 := st3.call hbel; clear st3 hbel) | (refine wpList_storeC st4 rfl 3 _ _ rfl 0 b2 k.toNat rfl _ rfl _ _ rfl sizeInt rfl (by rw [iv_size, hdl.out]; omega) rfl _ Hset.out _ rfl ?_; intro w5 st5; clear st4))
      simp only [List.set_cons_zero] at st5
      go_roundw
      case rel => exact ⟨k + 1, by omega, by omega, rfl, st5⟩
      case measure => simp [intOf]; omega
    · have e : dirR l (clampN n) k.toNat = dirL l (clampN n) := by unfold dirL; rw [show k.toNat = clampN n by omega]
      rw [e] at st3
      clear e
      go_wp2
      go_ret
      exact ⟨b2, by rw [show (dirL l (clampN n)).length = clampN n from dirR_len _ _ _]; rfl, st3.above (i := 0) rfl, st3.at (i := 0) rfl, st3.below⟩

end Go.Proofs.Ytdkkklhpfflpkaa
