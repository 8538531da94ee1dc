/- Contracts of the reference of package bits: Bit and value. -/
import Derived.Test.YtdkkklhpfflpkaaBits
open Go Go.RowKit
namespace Go.Proofs.Ytdkkklhpfflpkaa

/-- What is left of a byte after some halvings still has the bit. -/
def BitLeft (X J : Int) (R : Nat) : Prop := X.toNat / 2 ^ (7 - J).toNat % 2 = R

theorem bitLeft_step {X J : Int} {R : Nat} (h0 : 0 ≤ X) (hJ : J < 7) (h : BitLeft X J R) : BitLeft (X / 2) (J + 1) R := by
  unfold BitLeft at *
  rw [← h, show (7 - J).toNat = (7 - (J + 1)).toNat + 1 by omega, Nat.pow_succ, Nat.mul_comm, ← Nat.div_div_eq_div_mul]
  rw [show (X / 2).toNat = X.toNat / 2 by omega]

theorem bitLeft_end {X J : Int} {R : Nat} (h0 : 0 ≤ X) (hJ : ¬ J < 7) (h : BitLeft X J R) : X % 2 = (R : Int) := by
  unfold BitLeft at h
  rw [show (7 - J).toNat = 0 by omega] at h
  simp at h
  omega

theorem bitLeft_start (l : List Nat) (i : Int) (h0 : 0 ≤ i) (c : Int) (hc : c = (l.getD (i / 8).toNat 0 : Nat)) : BitLeft c (i % 8) (bitN l i.toNat) := by
  unfold BitLeft bitN
  subst hc
  rw [show (i / 8).toNat = i.toNat / 8 by omega, show (7 - i % 8).toNat = 7 - i.toNat % 8 by omega]
  simp

set_option maxHeartbeats 400000 in
theorem RefBit_in (l : List Nat) (hk : Key l) (i : Int) (h0 : 0 ≤ i) (h1 : i < 256) (w : World) :
    Calls Try.prog 17 #[.agg (kv l), .int .i64 i] w fun e w' => e = .returned (.int .i64 (bitN l i.toNat : Nat)) ∧ Below w.heap.size w w' := by
  have hx : (kv l)[(i / 8).toNat]? = some (.int .u8 (l.getD (i / 8).toNat 0 : Nat)) := kv_get l _ (by rw [hk.len]; omega)
  have hc := hk.get (i / 8).toNat
  have He : Hid (BitLeft (l.getD (i / 8).toNat 0 : Nat) (i % 8) (bitN l i.toNat)) := bitLeft_start l i h0 _ rfl
  generalize l.getD (i / 8).toNat 0 = c at *
  have hc0 : (0 : Int) ≤ (c : Int) := by omega
  have hc1 : (c : Int) < 256 := by omega
  have hR := bitN_lt l i.toNat
  clear hc hk
  generalize (c : Int) = z at *
  generalize bitN l i.toNat = R at *
  go_enter Try.func17, Try.ntmps17
  go_wp2
  go_loop [5, 6] (fun x j => ∃ X J : Int, 0 ≤ X ∧ X < 256 ∧ 0 ≤ J ∧ J ≤ 7 ∧ Hid (BitLeft X J R) ∧ x = .int .i64 X ∧ j = .int .i64 J) (fun _ j => (7 - intOf j).toNat)
  case atStart => exact ⟨z, i % 8, hc0, hc1, by omega, by omega, He, rfl, rfl⟩
  case round =>
    obtain ⟨X, J, q0, q1, q2, q3, q4, rfl, rfl⟩ := hrel
    clear He hx hc0 hc1
    by_cases hJ : J < 7
    · go_wp2
      go_round
      case rel => exact ⟨X / 2, J + 1, by omega, by omega, by omega, by omega, bitLeft_step q0 hJ q4, rfl, rfl⟩
      case measure => simp [intOf]; omega
    · go_wp2
      go_ret
      exact ⟨ret_int (bitLeft_end q0 (by omega) q4), (Below.refl _ _).alloc (Nat.le_refl _) _⟩

theorem RefBit_out (l : List Nat) (i : Int) (h : ¬ (0 ≤ i ∧ i < 256)) (w : World) :
    Calls Try.prog 17 #[.agg (kv l), .int .i64 i] w fun e w' => e = .returned (.int .i64 (-1)) ∧ Below w.heap.size w w' := by
  by_cases h0 : i < 0
  · clear h
    go_enter Try.func17, Try.ntmps17
    go_wp2
    go_ret
    exact ⟨rfl, (Below.refl _ _).alloc (Nat.le_refl _) _⟩
  · have h1 : 255 < i := by omega
    have h0 : 0 ≤ i := by omega
    clear h
    go_enter Try.func17, Try.ntmps17
    go_wp2
    go_ret
    exact ⟨rfl, (Below.refl _ _).alloc (Nat.le_refl _) _⟩

theorem RefBit_calls (l : List Nat) (hk : Key l) (i : Int) (w : World) :
    Calls Try.prog 17 #[.agg (kv l), .int .i64 i] w fun e w' => e = .returned (.int .i64 (bitI l i)) ∧ Below w.heap.size w w' := by
  unfold bitI
  by_cases h : 0 ≤ i ∧ i < 256
  · rw [if_pos h]; exact RefBit_in l hk i h.1 h.2 w
  · rw [if_neg h]; exact RefBit_out l i h w

/-- The value of bit i within its byte. -/
def valN (i : Nat) : Nat := 2 ^ (7 - i % 8)
def ValLeft (V J : Int) (R : Nat) : Prop := V.toNat * 2 ^ (7 - J).toNat = R

theorem valLeft_step {V J : Int} {R : Nat} (h0 : 0 ≤ V) (hJ : J < 7) (h : ValLeft V J R) : ValLeft (V * 2) (J + 1) R := by
  unfold ValLeft at *
  rw [← h, show (7 - J).toNat = (7 - (J + 1)).toNat + 1 by omega, Nat.pow_succ, show (V * 2).toNat = V.toNat * 2 by omega]
  rw [Nat.mul_assoc, Nat.mul_comm 2]

theorem valLeft_le {V J : Int} {R : Nat} (h0 : 0 ≤ V) (hJ : J < 7) (hR : R ≤ 128) (h : ValLeft V J R) : V * 2 ≤ 128 := by
  have := valLeft_step h0 hJ h
  unfold ValLeft at this
  have h2 : 0 < 2 ^ (7 - (J + 1)).toNat := Nat.two_pow_pos _
  have h3 := Nat.le_mul_of_pos_right (V * 2).toNat h2
  omega

theorem valLeft_end {V J : Int} {R : Nat} (h0 : 0 ≤ V) (hJ : ¬ J < 7) (h : ValLeft V J R) : V = (R : Int) := by
  unfold ValLeft at h
  rw [show (7 - J).toNat = 0 by omega] at h
  simp at h
  omega

theorem valN_le (i : Nat) : valN i ≤ 128 := by
  unfold valN
  exact Nat.pow_le_pow_right (n := 2) (by decide) (show 7 - i % 8 ≤ 7 by omega)

set_option maxHeartbeats 400000 in
theorem value_calls (i : Int) (h0 : 0 ≤ i) (h1 : i < 256) (w : World) :
    Calls Try.prog 38 #[.int .i64 i] w fun e w' => e = .returned (.int .i64 (valN i.toNat : Nat)) ∧ w = w' := by
  have He : Hid (ValLeft 1 (i % 8) (valN i.toNat)) := by
    unfold Hid ValLeft valN
    rw [show (7 - i % 8).toNat = 7 - i.toNat % 8 by omega]
    simp
  have hR := valN_le i.toNat
  generalize valN i.toNat = R at *
  go_enter Try.func38, Try.ntmps38
  go_wp2
  go_loop [3, 4] (fun v j => ∃ V J : Int, 0 ≤ V ∧ V ≤ 128 ∧ 0 ≤ J ∧ J ≤ 7 ∧ Hid (ValLeft V J R) ∧ v = .int .i64 V ∧ j = .int .i64 J) (fun _ j => (7 - intOf j).toNat)
  case atStart => exact ⟨1, i % 8, by omega, by omega, by omega, by omega, He, rfl, rfl⟩
  case round =>
    obtain ⟨V, J, q0, q1, q2, q3, q4, rfl, rfl⟩ := hrel
    clear He
    by_cases hJ : J < 7
    · have hle := valLeft_le q0 hJ hR q4
      go_wp2
      go_round
      case rel => exact ⟨V * 2, J + 1, by omega, by omega, by omega, by omega, valLeft_step q0 hJ q4, rfl, rfl⟩
      case measure => simp [intOf]; omega
    · go_wp2
      go_ret
      exact ⟨ret_int (valLeft_end q0 (by omega) q4), rfl⟩

end Go.Proofs.Ytdkkklhpfflpkaa
