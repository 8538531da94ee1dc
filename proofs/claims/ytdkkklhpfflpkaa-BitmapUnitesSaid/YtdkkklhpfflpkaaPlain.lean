/- Plain laws on bits and bytes of keys: common lengths, prefixes, the order. No program is named here. -/
import Derived.Test.YtdkkklhpfflpkaaFlip2
import Derived.Lib.BitFns
open Go Go.RowKit
namespace Go.Proofs.Ytdkkklhpfflpkaa

/-- The number of leading bits that two keys have in common. -/
def comN (a b : List Nat) : Nat := (List.range 256).findIdx fun n => bitN a n != bitN b n

theorem comN_le (a b : List Nat) : comN a b ≤ 256 := by
  have := List.findIdx_le_length (xs := List.range 256) (p := fun n => bitN a n != bitN b n)
  simpa [comN] using this

theorem comN_same (a b : List Nat) (j : Nat) (h : j < comN a b) : bitN a j = bitN b j := by
  have h1 := comN_le a b
  have h2 := List.not_of_lt_findIdx (xs := List.range 256) (p := fun n => bitN a n != bitN b n) (i := j) h
  simpa using h2

theorem comN_diff (a b : List Nat) (h : comN a b < 256) : bitN a (comN a b) ≠ bitN b (comN a b) := by
  have h2 := List.findIdx_getElem (xs := List.range 256) (p := fun n => bitN a n != bitN b n) (w := by simpa [comN] using h)
  simpa [comN] using h2

theorem comN_unique (a b : List Nat) (n : Nat) (hn : n ≤ 256) (h1 : ∀ j < n, bitN a j = bitN b j) (h2 : n < 256 → bitN a n ≠ bitN b n) : comN a b = n := by
  rcases Nat.lt_trichotomy (comN a b) n with h | h | h
  · exact absurd (h1 _ h) (comN_diff a b (by omega))
  · exact h
  · have := comN_le a b
    exact absurd (comN_same a b n h) (h2 (by omega))

theorem comN_comm (a b : List Nat) : comN a b = comN b a :=
  comN_unique a b _ (comN_le b a) (fun j hj => (comN_same b a j hj).symm) (fun h => (comN_diff b a h).symm)

/-! bytes and their bits -/
theorem byte_bits : ∀ x < 256, x = x / 2 ^ 7 % 2 * 128 + x / 2 ^ 6 % 2 * 64 + x / 2 ^ 5 % 2 * 32 + x / 2 ^ 4 % 2 * 16 + x / 2 ^ 3 % 2 * 8 + x / 2 ^ 2 % 2 * 4 + x / 2 ^ 1 % 2 * 2 + x / 2 ^ 0 % 2 := by decide +kernel

theorem byte_ext {x y : Nat} (hx : x < 256) (hy : y < 256) (h : ∀ r < 8, x / 2 ^ (7 - r) % 2 = y / 2 ^ (7 - r) % 2) : x = y := by
  rw [byte_bits x hx, byte_bits y hy]
  have h0 := h 0 (by omega); have h1 := h 1 (by omega); have h2 := h 2 (by omega); have h3 := h 3 (by omega)
  have h4 := h 4 (by omega); have h5 := h 5 (by omega); have h6 := h 6 (by omega); have h7 := h 7 (by omega)
  simp only [Nat.sub_zero, Nat.reduceSub] at h0 h1 h2 h3 h4 h5 h6 h7
  rw [h0, h1, h2, h3, h4, h5, h6, h7]

theorem bitN_at (l : List Nat) (k r : Nat) (hr : r < 8) : bitN l (8 * k + r) = l.getD k 0 / 2 ^ (7 - r) % 2 := by
  unfold bitN
  rw [show (8 * k + r) / 8 = k by omega, show (8 * k + r) % 8 = r by omega]

theorem getD_ext {a b : List Nat} (h : a.length = b.length) (he : ∀ k < a.length, a.getD k 0 = b.getD k 0) : a = b := by
  apply List.ext_getElem h
  intro k h1 h2
  have := he k h1
  simpa [List.getD_eq_getElem?_getD, h1, h2] using this

theorem key_ext {a b : List Nat} (ha : Key a) (hb : Key b) (h : ∀ j < 256, bitN a j = bitN b j) : a = b := by
  refine getD_ext (by rw [ha.len, hb.len]) fun k hk => ?_
  rw [ha.len] at hk
  refine byte_ext (ha.get k) (hb.get k) fun r hr => ?_
  rw [← bitN_at a k r hr, ← bitN_at b k r hr]
  exact h _ (by omega)

theorem comN_256 {a b : List Nat} (ha : Key a) (hb : Key b) : comN a b = 256 ↔ a = b := by
  constructor
  · intro h; exact key_ext ha hb fun j hj => comN_same a b j (by omega)
  · rintro rfl
    exact comN_unique a a 256 (Nat.le_refl _) (fun _ _ => rfl) (fun h => absurd h (by omega))

/-! the first byte that differs -/
theorem xor_bit (x y s : Nat) : (x ^^^ y) / 2 ^ s % 2 = 1 ↔ x / 2 ^ s % 2 ≠ y / 2 ^ s % 2 := by
  have h := Nat.testBit_xor x y s
  rw [Nat.testBit_eq_decide_div_mod_eq, Nat.testBit_eq_decide_div_mod_eq, Nat.testBit_eq_decide_div_mod_eq] at h
  have h1 : x / 2 ^ s % 2 < 2 := Nat.mod_lt _ (by decide)
  have h2 : y / 2 ^ s % 2 < 2 := Nat.mod_lt _ (by decide)
  generalize x / 2 ^ s % 2 = p at *
  generalize y / 2 ^ s % 2 = q at *
  generalize (x ^^^ y) / 2 ^ s % 2 = r at *
  have hp : p = 0 ∨ p = 1 := by omega
  have hq : q = 0 ∨ q = 1 := by omega
  rcases hp with rfl | rfl <;> rcases hq with rfl | rfl <;> simp at h <;> simp [h]

theorem lead_bits : ∀ d < 256, d ≠ 0 → Lib.bitLen d ≤ 8 ∧ 1 ≤ Lib.bitLen d ∧ d / 2 ^ (Lib.bitLen d - 1) % 2 = 1 ∧ ∀ s < 8, Lib.bitLen d ≤ s → d / 2 ^ s % 2 = 0 := by decide +kernel

theorem com_at {a b : List Nat} (ha : Key a) (hb : Key b) (k : Nat) (hk : k < 32) (hpre : ∀ j < k, a.getD j 0 = b.getD j 0) (hd : a.getD k 0 ^^^ b.getD k 0 ≠ 0) :
    comN a b = 8 * k + (8 - Lib.bitLen (a.getD k 0 ^^^ b.getD k 0)) := by
  have hlt : a.getD k 0 ^^^ b.getD k 0 < 256 := Nat.xor_lt_two_pow (n := 8) (ha.get k) (hb.get k)
  obtain ⟨h1, h2, h3, h4⟩ := lead_bits _ hlt hd
  refine comN_unique a b _ (by omega) (fun j hj => ?_) (fun _ => ?_)
  · by_cases hjk : j < 8 * k
    · unfold bitN
      rw [hpre (j / 8) (by omega)]
    · obtain ⟨r, rfl⟩ : ∃ r, j = 8 * k + r := ⟨j - 8 * k, by omega⟩
      rw [bitN_at a k r (by omega), bitN_at b k r (by omega)]
      have h5 := h4 (7 - r) (by omega) (by omega)
      have h6 := xor_bit (a.getD k 0) (b.getD k 0) (7 - r)
      by_cases he : a.getD k 0 / 2 ^ (7 - r) % 2 = b.getD k 0 / 2 ^ (7 - r) % 2
      · exact he
      · have := h6.2 he; omega
  · rw [bitN_at a k _ (by omega), bitN_at b k _ (by omega)]
    refine (xor_bit _ _ _).1 ?_
    rw [show 7 - (8 - Lib.bitLen (a.getD k 0 ^^^ b.getD k 0)) = Lib.bitLen (a.getD k 0 ^^^ b.getD k 0) - 1 by omega]
    exact h3

theorem xor_zero {x y : Nat} (h : x ^^^ y = 0) : x = y := by
  apply Nat.eq_of_testBit_eq
  intro i
  have h1 := congrArg (·.testBit i) h
  simp only [Nat.testBit_xor, Nat.zero_testBit] at h1
  cases h2 : x.testBit i <;> cases h3 : y.testBit i <;> simp [h2, h3] at h1 ⊢

/-! the order -/
def cmpL : List Nat → List Nat → Int
  | x :: a, y :: b => if x < y then -1 else if y < x then 1 else cmpL a b
  | _, _ => 0

theorem cmpL_self (a : List Nat) : cmpL a a = 0 := by
  induction a with
  | nil => rfl
  | cons x a ih => simp [cmpL, ih]

theorem cmpL_anti : ∀ (a b : List Nat), cmpL b a = - cmpL a b
  | [], [] => rfl
  | [], _ :: _ => rfl
  | _ :: _, [] => rfl
  | x :: a, y :: b => by
    simp only [cmpL]
    by_cases h : x < y
    · rw [if_pos h, if_neg (by omega), if_pos h]; rfl
    · by_cases h2 : y < x
      · rw [if_pos h2, if_neg h, if_pos h2]
      · rw [if_neg h2, if_neg h, if_neg h, if_neg h2]; exact cmpL_anti a b

theorem cmpL_at : ∀ (a b : List Nat) (k : Nat), a.length = b.length → k < a.length → (∀ j < k, a.getD j 0 = b.getD j 0) → a.getD k 0 ≠ b.getD k 0 →
    cmpL a b = if a.getD k 0 < b.getD k 0 then -1 else 1
  | [], _, k, _, hk, _, _ => by simp at hk
  | _ :: _, [], k, hl, _, _, _ => by simp at hl
  | x :: a, y :: b, 0, _, _, _, hd => by
    simp only [List.getD_cons_zero] at hd ⊢
    simp only [cmpL]
    by_cases h : x < y
    · rw [if_pos h, if_pos h]
    · rw [if_neg h, if_pos (by omega), if_neg h]
  | x :: a, y :: b, k + 1, hl, hk, hp, hd => by
    have h0 := hp 0 (by omega)
    simp only [List.getD_cons_zero] at h0
    subst h0
    simp only [List.getD_cons_succ] at hd ⊢
    simp only [cmpL, Nat.lt_irrefl, if_false]
    exact cmpL_at a b k (by simpa using hl) (by simpa using hk) (fun j hj => by have := hp (j + 1) (by omega); simpa using this) hd

theorem cmpL_same : ∀ (a b : List Nat), a.length = b.length → (∀ j < a.length, a.getD j 0 = b.getD j 0) → cmpL a b = 0 := fun a b hl h => by
  rw [getD_ext hl h]; exact cmpL_self b

end Go.Proofs.Ytdkkklhpfflpkaa
