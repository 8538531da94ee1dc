/- Plain laws on sets of depths: the set with a depth, without it, their numbers, the greatest one, the set of a list. No program is named here. -/
import Derived.Test.YtdkkklhpfflpkaaPre
open Go Go.RowKit
namespace Go.Proofs.Ytdkkklhpfflpkaa

def orI (b : List Nat) (i : Int) : List Nat := if bitI b i = 1 then b else flipI b i
def andI (b : List Nat) (i : Int) : List Nat := if bitI b i = 1 then flipI b i else b
def ofL (b : List Nat) (l : List Int) : List Nat := l.foldl orI b

theorem bitI_lt {b : List Nat} {i : Int} (h : 0 ≤ i ∧ i < 256) : bitI b i = (bitN b i.toNat : Nat) := by unfold bitI; rw [if_pos h]
theorem bitI_out {b : List Nat} {i : Int} (h : ¬ (0 ≤ i ∧ i < 256)) : bitI b i = -1 := by unfold bitI; rw [if_neg h]

theorem Key.or {b : List Nat} (h : Key b) (i : Int) : Key (orI b i) := by
  unfold orI flipI
  split
  · exact h
  · split
    · exact h.flip _
    · exact h
theorem Key.and {b : List Nat} (h : Key b) (i : Int) : Key (andI b i) := by
  unfold andI flipI
  split
  · split
    · exact h.flip _
    · exact h
  · exact h
theorem Key.ofL : ∀ (l : List Int) {b : List Nat}, Key b → Key (ofL b l)
  | [], _, h => h
  | i :: l, _, h => Key.ofL l (h.or i)

theorem orI_bit {b : List Nat} (h : Key b) (i : Int) (j : Nat) (hj : j < 256) : bitN (orI b i) j = if (j : Int) = i then 1 else bitN b j := by
  have hb := bitN_lt b j
  unfold orI
  by_cases hi : 0 ≤ i ∧ i < 256
  · rw [bitI_lt hi]
    by_cases h1 : ((bitN b i.toNat : Nat) : Int) = 1
    · rw [if_pos h1]
      by_cases hji : (j : Int) = i
      · rw [if_pos hji]
        obtain rfl : j = i.toNat := by omega
        omega
      · rw [if_neg hji]
    · rw [if_neg h1]
      unfold flipI
      rw [if_pos hi, bitN_flip h _ _ (by omega)]
      by_cases hji : (j : Int) = i
      · have hi2 := bitN_lt b i.toNat
        rw [if_pos hji, if_pos (by omega)]
        omega
      · rw [if_neg hji, if_neg (by omega)]
  · rw [bitI_out hi, if_neg (by decide)]
    unfold flipI
    rw [if_neg hi, if_neg (by omega)]

theorem andI_bit {b : List Nat} (h : Key b) (i : Int) (j : Nat) (hj : j < 256) : bitN (andI b i) j = if (j : Int) = i then 0 else bitN b j := by
  have hb := bitN_lt b j
  unfold andI
  by_cases hi : 0 ≤ i ∧ i < 256
  · rw [bitI_lt hi]
    by_cases h1 : ((bitN b i.toNat : Nat) : Int) = 1
    · rw [if_pos h1]
      unfold flipI
      rw [if_pos hi, bitN_flip h _ _ (by omega)]
      by_cases hji : (j : Int) = i
      · rw [if_pos hji, if_pos (by omega)]
        omega
      · rw [if_neg hji, if_neg (by omega)]
    · rw [if_neg h1]
      by_cases hji : (j : Int) = i
      · have hi2 := bitN_lt b i.toNat
        rw [if_pos hji]
        obtain rfl : j = i.toNat := by omega
        omega
      · rw [if_neg hji]
  · rw [bitI_out hi, if_neg (by decide), if_neg (by omega)]

theorem zero_bit (j : Nat) : bitN zero32 j = 0 := by
  have h : zero32.getD (j / 8) 0 = 0 := by
    unfold zero32
    rw [List.getD_eq_getElem?_getD, List.getElem?_replicate]
    split <;> rfl
  unfold bitN
  rw [h, Nat.zero_div, Nat.zero_mod]
theorem key_zero : Key zero32 := ⟨by decide, by decide⟩

theorem ofL_bit (j : Nat) (hj : j < 256) : ∀ (l : List Int) (b : List Nat), Key b → bitN (ofL b l) j = if (j : Int) ∈ l then 1 else bitN b j
  | [], b, _ => by simp [ofL]
  | i :: l, b, h => by
    have ih := ofL_bit j hj l (orI b i) (h.or i)
    show bitN (ofL (orI b i) l) j = _
    rw [ih, orI_bit h i j hj]
    by_cases h1 : (j : Int) ∈ l
    · rw [if_pos h1, if_pos (List.mem_cons_of_mem _ h1)]
    · rw [if_neg h1]
      by_cases h2 : (j : Int) = i
      · rw [if_pos h2, if_pos (by rw [h2]; exact List.mem_cons_self)]
      · rw [if_neg h2, if_neg (by simp [h1, h2])]

/-- The depths in ascending order. -/
def setB (b : List Nat) : List Nat := (List.range 256).filter fun i => bitN b i == 1
def setI (b : List Nat) : List Int := (setB b).map fun (n : Nat) => (n : Int)
def lenN (b : List Nat) : Nat := ((List.range 32).map fun k => Lib.onesCount (b.getD k 0)).sum

theorem ones_byte : ∀ x < 256, Lib.onesCount x = ((List.range 8).filter fun r => x / 2 ^ (7 - r) % 2 == 1).length := by decide +kernel
theorem range_split : List.range 256 = (List.range 32).flatMap fun k => (List.range 8).map fun r => 8 * k + r := by decide +kernel

theorem lenN_eq {b : List Nat} (h : Key b) : lenN b = (setB b).length := by
  unfold lenN setB
  rw [range_split, List.filter_flatMap, List.length_flatMap]
  refine congrArg List.sum (List.map_congr_left fun k _ => ?_)
  rw [ones_byte _ (h.get k), List.filter_map, List.length_map]
  refine congrArg List.length (List.filter_congr fun r hr => ?_)
  have hr8 : r < 8 := by simpa using hr
  simp only [Function.comp, bitN_at b k r hr8]

theorem ones_le : ∀ x < 256, Lib.onesCount x ≤ 8 := by decide +kernel

theorem setB_or_and {b : List Nat} (h : Key b) (i : Nat) (hi : i < 256) : (setB (orI b i)).length = (setB (andI b i)).length + 1 := by
  have gen : ∀ n, n ≤ 256 → ((List.range n).filter fun j => bitN (orI b i) j == 1).length = ((List.range n).filter fun j => bitN (andI b i) j == 1).length + if i < n then 1 else 0 := by
    intro n
    induction n with
    | zero => intro _; simp
    | succ n ih =>
      intro hn
      rw [List.range_succ, List.filter_append, List.filter_append, List.length_append, List.length_append, ih (by omega)]
      have e1 := orI_bit h i n (by omega)
      have e2 := andI_bit h i n (by omega)
      by_cases hin : n = i
      · subst hin
        rw [if_pos rfl] at e1 e2
        rw [if_neg (by omega), if_pos (by omega)]
        simp [e1, e2]
      · rw [if_neg (by omega)] at e1 e2
        have e3 : (if i < n + 1 then 1 else 0 : Nat) = if i < n then 1 else 0 := by
          by_cases h1 : i < n
          · rw [if_pos h1, if_pos (by omega)]
          · rw [if_neg h1, if_neg (by omega)]
        rw [e3]
        simp only [List.filter_cons, e1, e2, List.filter_nil]
        omega
  have := gen 256 (Nat.le_refl _)
  rw [if_pos hi] at this
  exact this

/-- The greatest depth, or -1. -/
def lastUpto (b : List Nat) : Nat → Int
  | 0 => -1
  | n + 1 => if bitN b n = 1 then (n : Int) else lastUpto b n
def lastI (b : List Nat) : Int := lastUpto b 256

structure IsLast (b : List Nat) (n : Nat) (L : Int) : Prop where
  lo : -1 ≤ L
  hi : L < n
  bit : 0 ≤ L → bitN b L.toNat = 1
  none : ∀ j : Nat, L < j → j < n → bitN b j = 0

theorem lastUpto_is (b : List Nat) : ∀ n, IsLast b n (lastUpto b n)
  | 0 => ⟨Int.le_refl _, show (-1 : Int) < 0 by decide, fun h => absurd (show (0 : Int) ≤ -1 from h) (by decide), fun j _ h => absurd h (by omega)⟩
  | n + 1 => by
    unfold lastUpto
    by_cases h : bitN b n = 1
    · rw [if_pos h]
      exact ⟨by omega, by omega, fun _ => by simpa using h, fun j h1 h2 => by omega⟩
    · rw [if_neg h]
      have ih := lastUpto_is b n
      refine ⟨ih.lo, by have := ih.hi; omega, ih.bit, fun j h1 h2 => ?_⟩
      by_cases hj : j = n
      · subst hj
        have := bitN_lt b j
        omega
      · exact ih.none j h1 (by omega)

theorem isLast_unique {b : List Nat} {n : Nat} {L L' : Int} (h : IsLast b n L) (h' : IsLast b n L') : L = L' := by
  have h1 := h.lo; have h2 := h.hi; have h3 := h'.lo; have h4 := h'.hi
  by_cases hlt : L < L'
  · have hb := h'.bit (by omega)
    have hn := h.none L'.toNat (by omega) (by omega)
    omega
  · by_cases hgt : L' < L
    · have hb := h.bit (by omega)
      have hn := h'.none L.toNat (by omega) (by omega)
      omega
    · omega

theorem lastI_unique {b : List Nat} {L : Int} (h : IsLast b 256 L) : lastI b = L := isLast_unique (lastUpto_is b 256) h
theorem lastI_is (b : List Nat) : IsLast b 256 (lastI b) := lastUpto_is b 256

end Go.Proofs.Ytdkkklhpfflpkaa
