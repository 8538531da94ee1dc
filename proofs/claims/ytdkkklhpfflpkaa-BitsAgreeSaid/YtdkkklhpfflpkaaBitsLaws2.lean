/- The walks of the laws on the order, common lengths and prefixes. -/
import Derived.Test.YtdkkklhpfflpkaaBitsLaws
open Go Go.RowKit
namespace Go.Proofs.Ytdkkklhpfflpkaa

theorem half_step (x r : Nat) (hr : r < 8) : x / 2 ^ (7 - r) = 2 * (x / 2 ^ (8 - r)) + x / 2 ^ (7 - r) % 2 := by
  have h : x / 2 ^ (8 - r) = x / 2 ^ (7 - r) / 2 := by
    rw [show 8 - r = (7 - r) + 1 by omega, Nat.pow_succ, ← Nat.div_div_eq_div_mul]
  rw [h]
  omega

theorem tops_same (x y : Nat) (hx : x < 256) (hy : y < 256) : ∀ r ≤ 8, (∀ s < r, x / 2 ^ (7 - s) % 2 = y / 2 ^ (7 - s) % 2) → x / 2 ^ (8 - r) = y / 2 ^ (8 - r)
  | 0, _, _ => by
    rw [Nat.div_eq_of_lt (show x < 2 ^ (8 - 0) from hx), Nat.div_eq_of_lt (show y < 2 ^ (8 - 0) from hy)]
  | r + 1, hr, h => by
    have ih := tops_same x y hx hy r (by omega) (fun s hs => h s (by omega))
    have h1 := half_step x r (by omega)
    have h2 := half_step y r (by omega)
    have h3 := h r (by omega)
    rw [show 8 - (r + 1) = 7 - r by omega]
    omega

/-- The first bit that differs tells the order. -/
theorem byte_order (x y r : Nat) (hx : x < 256) (hy : y < 256) (hr : r < 8) (h : ∀ s < r, x / 2 ^ (7 - s) % 2 = y / 2 ^ (7 - s) % 2) (hd : x / 2 ^ (7 - r) % 2 ≠ y / 2 ^ (7 - r) % 2) :
    (x < y ↔ x / 2 ^ (7 - r) % 2 = 0) := by
  have ht := tops_same x y hx hy r (by omega) h
  have h1 := half_step x r hr
  have h2 := half_step y r hr
  have hp : 0 < 2 ^ (7 - r) := Nat.two_pow_pos _
  have b1 : x / 2 ^ (7 - r) % 2 < 2 := Nat.mod_lt _ (by decide)
  have b2 : y / 2 ^ (7 - r) % 2 < 2 := Nat.mod_lt _ (by decide)
  have lt_of : ∀ p q : Nat, p / 2 ^ (7 - r) < q / 2 ^ (7 - r) → p < q := fun p q hpq => by
    rcases Nat.lt_or_ge p q with h | h
    · exact h
    · have := Nat.div_le_div_right (c := 2 ^ (7 - r)) h
      omega
  constructor
  · intro hxy
    rcases Nat.eq_zero_or_pos (x / 2 ^ (7 - r) % 2) with h | h
    · exact h
    · have := lt_of y x (by omega)
      omega
  · intro h0
    exact lt_of x y (by omega)

theorem cmp_com {a b : List Nat} (ha : Key a) (hb : Key b) (h : comN a b < 256) : cmpL a b = (bitN a (comN a b) : Int) - (bitN b (comN a b) : Int) := by
  have hd := comN_diff a b h
  have hs := fun j => comN_same a b j
  generalize comN a b = n at *
  obtain ⟨k, r, hr, rfl⟩ : ∃ k r, r < 8 ∧ n = 8 * k + r := ⟨n / 8, n % 8, by omega, by omega⟩
  rw [bitN_at a k r hr, bitN_at b k r hr] at hd ⊢
  have hpre : ∀ j < k, a.getD j 0 = b.getD j 0 := fun j hj => byte_ext (ha.get j) (hb.get j) fun s hs' => by
    have := hs (8 * j + s) (by omega)
    rw [bitN_at a j s hs', bitN_at b j s hs'] at this
    exact this
  have hbits : ∀ s < r, a.getD k 0 / 2 ^ (7 - s) % 2 = b.getD k 0 / 2 ^ (7 - s) % 2 := fun s hs' => by
    have := hs (8 * k + s) (by omega)
    rw [bitN_at a k s (by omega), bitN_at b k s (by omega)] at this
    exact this
  have hne : a.getD k 0 ≠ b.getD k 0 := fun e => hd (by rw [e])
  rw [cmpL_at a b k (by rw [ha.len, hb.len]) (by rw [ha.len]; omega) hpre hne]
  have ho := byte_order _ _ r (ha.get k) (hb.get k) hr hbits hd
  have h1 : a.getD k 0 / 2 ^ (7 - r) % 2 < 2 := Nat.mod_lt _ (by decide)
  have h2 : b.getD k 0 / 2 ^ (7 - r) % 2 < 2 := Nat.mod_lt _ (by decide)
  by_cases hlt : a.getD k 0 < b.getD k 0
  · rw [if_pos hlt]; have := ho.1 hlt; omega
  · rw [if_neg hlt]
    have : ¬ a.getD k 0 / 2 ^ (7 - r) % 2 = 0 := fun e => hlt (ho.2 e)
    omega

end Go.Proofs.Ytdkkklhpfflpkaa
