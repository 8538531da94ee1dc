/- Plain laws on prefixes of keys, and single bits of an inverted key. No program is named here. -/
import Derived.Test.YtdkkklhpfflpkaaPlain
open Go Go.RowKit
namespace Go.Proofs.Ytdkkklhpfflpkaa

/-- How many bits of byte i are kept. -/
def keepN (c i : Nat) : Nat := min (c - 8 * i) 8
def maskN (x m : Nat) : Nat := x / 2 ^ (8 - m) * 2 ^ (8 - m)
/-- The key whose first c bits are those of l, and whose others are 0. -/
def preC (l : List Nat) (c : Nat) : List Nat := (List.range 32).map fun i => maskN (l.getD i 0) (keepN c i)
def clampN (n : Int) : Nat := min n.toNat 256

theorem mask_bits : ∀ m ≤ 8, ∀ r < 8, ∀ x < 256, maskN x m / 2 ^ (7 - r) % 2 = if r < m then x / 2 ^ (7 - r) % 2 else 0 := by decide +kernel
theorem mask_le (x m : Nat) : maskN x m ≤ x := Nat.div_mul_le_self _ _
theorem mask_and : ∀ s ≤ 8, ∀ x < 256, x &&& (255 * 2 ^ s % 256) = maskN x (8 - s) := by decide +kernel

theorem preC_get (l : List Nat) (c i : Nat) (h : i < 32) : (preC l c).getD i 0 = maskN (l.getD i 0) (keepN c i) := by
  unfold preC
  rw [List.getD_eq_getElem?_getD, List.getElem?_map, List.getElem?_range h]
  rfl

theorem Key.pre {l : List Nat} (h : Key l) (c : Nat) : Key (preC l c) :=
  ⟨by simp [preC], fun x hx => by
    unfold preC at hx
    obtain ⟨i, _, rfl⟩ := List.mem_map.1 hx
    exact Nat.lt_of_le_of_lt (mask_le _ _) (h.get i)⟩

theorem bitN_split (l : List Nat) (j : Nat) : bitN l j = l.getD (j / 8) 0 / 2 ^ (7 - j % 8) % 2 := rfl

theorem preC_bit {l : List Nat} (h : Key l) (c j : Nat) (hj : j < 256) : bitN (preC l c) j = if j < c then bitN l j else 0 := by
  rw [bitN_split, preC_get l c (j / 8) (by omega), mask_bits _ (by unfold keepN; omega) _ (by omega) _ (h.get _)]
  by_cases hc : j < c
  · rw [if_pos hc, if_pos (by unfold keepN; omega), bitN_split]
  · rw [if_neg hc, if_neg (by unfold keepN; omega)]

/-- cur is l cut behind bit c. -/
structure IsPre (l : List Nat) (c : Nat) (cur : List Nat) : Prop where
  key : Key cur
  bit : ∀ j < 256, bitN cur j = if j < c then bitN l j else 0

theorem isPre_start {l : List Nat} (h : Key l) : IsPre l 256 l := ⟨h, fun j hj => by rw [if_pos hj]⟩

theorem isPre_end {l cur : List Nat} (hl : Key l) {c : Nat} (h : IsPre l c cur) : cur = preC l c :=
  key_ext h.key (hl.pre c) fun j hj => by rw [h.bit j hj, preC_bit hl c j hj]

theorem bitN_flip {l : List Nat} (h : Key l) (i j : Nat) (hi : i < 256) : bitN (flipN l i) j = if j = i then 1 - bitN l i else bitN l j := by
  have hb := bitN_lt l i
  have hlen := h.len
  rw [bitN_split (flipN l i) j]
  unfold flipN
  by_cases hk : j / 8 = i / 8
  · rw [hk]
    have hg : (l.set (i / 8) (l.getD (i / 8) 0 ^^^ valN i)).getD (i / 8) 0 = l.getD (i / 8) 0 ^^^ valN i := by
      rw [List.getD_eq_getElem?_getD, List.getElem?_set_self (by omega)]; rfl
    rw [hg]
    have hx := xor_bit (l.getD (i / 8) 0) (valN i) (7 - j % 8)
    have hv : valN i / 2 ^ (7 - j % 8) % 2 = if j % 8 = i % 8 then 1 else 0 := by
      unfold valN
      have : ∀ p < 8, ∀ q < 8, 2 ^ (7 - p) / 2 ^ (7 - q) % 2 = if q = p then 1 else 0 := by decide
      exact this (i % 8) (by omega) (j % 8) (by omega)
    have h1 : (l.getD (i / 8) 0 ^^^ valN i) / 2 ^ (7 - j % 8) % 2 < 2 := Nat.mod_lt _ (by decide)
    have h2 : l.getD (i / 8) 0 / 2 ^ (7 - j % 8) % 2 < 2 := Nat.mod_lt _ (by decide)
    by_cases hji : j = i
    · subst hji
      rw [if_pos rfl] at hv ⊢
      rw [hv] at hx
      rw [bitN_split]
      generalize l.getD (j / 8) 0 / 2 ^ (7 - j % 8) % 2 = p at *
      generalize (l.getD (j / 8) 0 ^^^ valN j) / 2 ^ (7 - j % 8) % 2 = q at *
      by_cases hp : p = 1
      · have : ¬ q = 1 := fun h => (hx.1 h) hp
        omega
      · have : q = 1 := hx.2 hp
        omega
    · rw [if_neg (by omega)] at hv
      rw [if_neg hji, bitN_split l j, hk]
      rw [hv] at hx
      generalize l.getD (i / 8) 0 / 2 ^ (7 - j % 8) % 2 = p at *
      generalize (l.getD (i / 8) 0 ^^^ valN i) / 2 ^ (7 - j % 8) % 2 = q at *
      by_cases hp : p = 0
      · have : ¬ q = 1 := fun h => (hx.1 h) hp
        omega
      · have : q = 1 := hx.2 hp
        omega
  · have hg : (l.set (i / 8) (l.getD (i / 8) 0 ^^^ valN i)).getD (j / 8) 0 = l.getD (j / 8) 0 := by
      rw [List.getD_eq_getElem?_getD, List.getElem?_set_ne (by omega), ← List.getD_eq_getElem?_getD]
    rw [hg, if_neg (by intro h; subst h; exact hk rfl), bitN_split]

theorem isPre_keep {l cur : List Nat} {c : Nat} (h : IsPre l (c + 1) cur) (hc : c < 256) (hb : ¬ bitN cur c = 1) : IsPre l c cur :=
  ⟨h.key, fun j hj => by
    have h1 := h.bit j hj
    have h2 := bitN_lt cur c
    rw [h1]
    by_cases hjc : j < c
    · rw [if_pos hjc, if_pos (by omega)]
    · by_cases hje : j = c
      · subst hje
        rw [if_neg hjc, ← h1]
        omega
      · rw [if_neg hjc, if_neg (by omega)]⟩

theorem isPre_flip {l cur : List Nat} {c : Nat} (h : IsPre l (c + 1) cur) (hc : c < 256) (hb : bitN cur c = 1) : IsPre l c (flipN cur c) :=
  ⟨h.key.flip c, fun j hj => by
    rw [bitN_flip h.key c j hc]
    by_cases hje : j = c
    · subst hje
      rw [if_pos rfl, hb, if_neg (by omega)]
    · rw [if_neg hje, h.bit j hj]
      by_cases hjc : j < c
      · rw [if_pos hjc, if_pos (by omega)]
      · rw [if_neg hjc, if_neg (by omega)]⟩

/-- The row after k rounds of Prefix. -/
def curP (l : List Nat) (c k : Nat) : List Nat := (List.range 32).map fun i => if i < k then maskN (l.getD i 0) (keepN c i) else l.getD i 0

theorem curP_len (l : List Nat) (c k : Nat) : (curP l c k).length = 32 := by simp [curP]
theorem curP_get (l : List Nat) (c k i : Nat) (h : i < 32) : (curP l c k).getD i 0 = if i < k then maskN (l.getD i 0) (keepN c i) else l.getD i 0 := by
  unfold curP
  rw [List.getD_eq_getElem?_getD, List.getElem?_map, List.getElem?_range h]
  rfl
theorem curP_zero {l : List Nat} (h : Key l) (c : Nat) : curP l c 0 = l :=
  getD_ext (by rw [curP_len, h.len]) fun i hi => by rw [curP_len] at hi; rw [curP_get l c 0 i hi, if_neg (by omega)]
theorem curP_end (l : List Nat) (c : Nat) : curP l c 32 = preC l c :=
  getD_ext (by rw [curP_len]; simp [preC]) fun i hi => by rw [curP_len] at hi; rw [curP_get l c 32 i hi, if_pos hi, preC_get l c i hi]
theorem curP_step (l : List Nat) (c k : Nat) (hk : k < 32) : (curP l c k).set k (maskN (l.getD k 0) (keepN c k)) = curP l c (k + 1) :=
  getD_ext (by rw [List.length_set, curP_len, curP_len]) fun i hi => by
    rw [List.length_set, curP_len] at hi
    rw [curP_get l c (k + 1) i hi]
    by_cases hik : i = k
    · subst hik
      rw [List.getD_eq_getElem?_getD, List.getElem?_set_self (by rw [curP_len]; exact hi), if_pos (by omega)]; rfl
    · rw [List.getD_eq_getElem?_getD, List.getElem?_set_ne (fun h => hik h.symm), ← List.getD_eq_getElem?_getD, curP_get l c k i hi]
      by_cases h : i < k
      · rw [if_pos h, if_pos (by omega)]
      · rw [if_neg h, if_neg (by omega)]

end Go.Proofs.Ytdkkklhpfflpkaa
