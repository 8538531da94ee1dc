/- Contracts of package bits and of its reference: Bit, value, Flip, over keys as lists of 32 bytes. -/
import Derived.Test.YtdkkklhpfflpkaaProg
import Derived.Test.YtdkkklhpfflpkaaBase
open Go Go.RowKit
namespace Go.Proofs.Ytdkkklhpfflpkaa

theorem ret_int {k : IntKind} {a b : Int} (h : a = b) : Ending.returned (.int k a) = .returned (.int k b) := by rw [h]

structure Key (l : List Nat) : Prop where
  len : l.length = 32
  lt : ∀ x ∈ l, x < 256

theorem Key.get {l : List Nat} (h : Key l) (i : Nat) : l.getD i 0 < 256 := by
  rcases Nat.lt_or_ge i l.length with hi | hi
  · rw [List.getD_eq_getElem?_getD, List.getElem?_eq_getElem hi]
    exact h.lt _ (List.getElem_mem hi)
  · rw [List.getD_eq_getElem?_getD, List.getElem?_eq_none hi]
    decide

theorem Key.set {l : List Nat} (h : Key l) (i x : Nat) (hx : x < 256) : Key (l.set i x) :=
  ⟨by rw [List.length_set]; exact h.len, fun y hy => by
    rcases List.mem_or_eq_of_mem_set hy with hy | rfl
    · exact h.lt y hy
    · exact hx⟩

def bitN (l : List Nat) (i : Nat) : Nat := l.getD (i / 8) 0 / 2 ^ (7 - i % 8) % 2
def bitI (l : List Nat) (i : Int) : Int := if 0 ≤ i ∧ i < 256 then (bitN l i.toNat : Int) else -1

theorem bitN_lt (l : List Nat) (i : Nat) : bitN l i < 2 := Nat.mod_lt _ (by decide)

theorem and_one_u8 (x : Nat) (h : x < 256) : bits .and .u8 (x : Int) 1 = ((x % 2 : Nat) : Int) := by
  have := bits_mask .u8 8 (by decide) wraps_u8 1 (by decide) (x : Int) (by omega) (by omega)
  simpa using this

theorem bit_walks (c : Nat) (hc : c < 256) (i : Int) (h0 : 0 ≤ i) : wrap64 (bits .and .u8 ((c : Int) / 2 ^ (7 - i % 8).toNat) 1) = ((c / 2 ^ (7 - i.toNat % 8) % 2 : Nat) : Int) := by
  have hm : (7 - i % 8).toNat = 7 - i.toNat % 8 := by omega
  rw [hm]
  have h1 : c / 2 ^ (7 - i.toNat % 8) < 256 := Nat.lt_of_le_of_lt (Nat.div_le_self _ _) hc
  have h2 := and_one_u8 _ h1
  have h3 : ((c : Int) / 2 ^ (7 - i.toNat % 8)) = ((c / 2 ^ (7 - i.toNat % 8) : Nat) : Int) := by
    rw [Int.natCast_ediv, Int.natCast_pow]; rfl
  rw [h3, h2]
  unfold wrap64
  omega

theorem Bit_in (l : List Nat) (hk : Key l) (i : Int) (h0 : 0 ≤ i) (h1 : i < 256) (w : World) :
    Calls Try.prog 16 #[.agg (kv l), .int .i64 i] w fun e w' => e = .returned (.int .i64 (bitN l i.toNat : Nat)) ∧ Below w.heap.size w w' := by
  have hx : (kv l)[(i / 8).toNat]? = some (.int .u8 (l.getD (i / 8).toNat 0 : Nat)) := kv_get l _ (by rw [hk.len]; omega)
  have hc := hk.get (i / 8).toNat
  have He : Hid (wrap64 (bits .and .u8 (((l.getD (i / 8).toNat 0 : Nat) : Int) / 2 ^ (7 - i % 8).toNat) 1) = (bitN l i.toNat : Nat)) := by
    have := bit_walks (l.getD (i / 8).toNat 0) hc i h0
    unfold bitN
    rw [show (i / 8).toNat = i.toNat / 8 by omega] at this ⊢
    exact this
  generalize l.getD (i / 8).toNat 0 = c at *
  have hc0 : (0 : Int) ≤ (c : Int) := by omega
  have hc1 : (c : Int) < 256 := by omega
  clear hc hk
  generalize (c : Int) = z at *
  go_enter Try.func16, Try.ntmps16
  go_wp2
  go_ret
  exact ⟨ret_int He.out, (Below.refl _ _).alloc (Nat.le_refl _) _⟩

theorem Bit_out (l : List Nat) (i : Int) (h : ¬ (0 ≤ i ∧ i < 256)) (w : World) :
    Calls Try.prog 16 #[.agg (kv l), .int .i64 i] w fun e w' => e = .returned (.int .i64 (-1)) ∧ Below w.heap.size w w' := by
  by_cases h0 : i < 0
  · clear h
    go_enter Try.func16, Try.ntmps16
    go_wp2
    go_ret
    exact ⟨rfl, (Below.refl _ _).alloc (Nat.le_refl _) _⟩
  · have h1 : 256 ≤ i := by omega
    have h0 : 0 ≤ i := by omega
    clear h
    go_enter Try.func16, Try.ntmps16
    go_wp2
    go_ret
    exact ⟨rfl, (Below.refl _ _).alloc (Nat.le_refl _) _⟩

theorem Bit_calls (l : List Nat) (hk : Key l) (i : Int) (w : World) :
    Calls Try.prog 16 #[.agg (kv l), .int .i64 i] w fun e w' => e = .returned (.int .i64 (bitI l i)) ∧ Below w.heap.size w w' := by
  unfold bitI
  by_cases h : 0 ≤ i ∧ i < 256
  · rw [if_pos h]; exact Bit_in l hk i h.1 h.2 w
  · rw [if_neg h]; exact Bit_out l i h w

end Go.Proofs.Ytdkkklhpfflpkaa
