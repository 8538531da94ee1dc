/- The reference's decimal numerals: the contract of Decimal. -/
import Derived.Test.YtmadfppacfmpeaaDoorFLaws4
open Go Go.RowKit Go.Extern.Stop Go.Stop Go.Extern
namespace Go.Proofs.YtmadfppacfmpeaaDoor

def digS : ByteArray := ⟨#[48, 49, 50, 51, 52, 53, 54, 55, 56, 57]⟩
theorem digAt : ∀ r : Fin 10, digS.extract r.val (r.val + 1) = ⟨#[UInt8.ofNat (48 + r.val)]⟩ := by decide +kernel

theorem decDigits_step (u : Nat) (h : ¬ u < 10) : Lib.decDigits u = Lib.decDigits (u / 10) ++ [UInt8.ofNat (48 + u % 10)] := by
  rw [Lib.decDigits, dif_neg h]
theorem decDigits_one (u : Nat) (h : u < 10) : Lib.decDigits u = [UInt8.ofNat (48 + u)] := by
  rw [Lib.decDigits, dif_pos h]

/-- What the loop keeps: what is left of the number, and the digits so far. -/
def DecInv (u v : Nat) (S : List UInt8) : Prop := v ≤ u ∧ (((0 < v ∨ S = []) ∧ Lib.decDigits v ++ S = Lib.decDigits u) ∨ (v = 0 ∧ S ≠ [] ∧ S = Lib.decDigits u))

theorem DecInv.start (u : Nat) : DecInv u u [] := ⟨Nat.le_refl _, .inl ⟨.inr rfl, by simp⟩⟩
theorem DecInv.step {u v : Nat} {S : List UInt8} (h : DecInv u v S) (hv : 0 < v ∨ S = []) : DecInv u (v / 10) (UInt8.ofNat (48 + v % 10) :: S) := by
  obtain ⟨hle, h⟩ := h
  refine ⟨by omega, ?_⟩
  have h1 : Lib.decDigits v ++ S = Lib.decDigits u := by
    rcases h with ⟨_, h⟩ | ⟨h0, h1, _⟩
    · exact h
    · rcases hv with hv | hv
      · omega
      · exact absurd hv h1
  by_cases h10 : v < 10
  · refine .inr ⟨by omega, by simp, ?_⟩
    rw [decDigits_one v h10] at h1
    rw [Nat.mod_eq_of_lt h10, ← h1]
    rfl
  · refine .inl ⟨.inl (by omega), ?_⟩
    rw [decDigits_step v h10] at h1
    simpa using h1
theorem DecInv.done {u v : Nat} {S : List UInt8} (h : DecInv u v S) (h0 : v = 0) (hS : S ≠ []) : S = Lib.decDigits u := by
  obtain ⟨_, h⟩ := h
  rcases h with ⟨h1 | h1, _⟩ | ⟨_, _, h⟩
  · omega
  · exact absurd h1 hS
  · exact h
theorem DecInv.len {u v : Nat} {S : List UInt8} (h : DecInv u v S) (hu : u < 18446744073709551616) : S.length ≤ 20 := by
  have hd : (Lib.decDigits u).length ≤ 20 := by rw [Lib.decDigits_length]; exact Lib.nDigits_le20 u hu
  obtain ⟨_, h⟩ := h
  rcases h with ⟨_, h⟩ | ⟨_, _, h⟩
  · rw [← h, List.length_append] at hd; omega
  · rw [h]; exact hd

theorem sizeL (S : List UInt8) : (⟨S.toArray⟩ : ByteArray).size = S.length := by simp [ByteArray.size]
theorem consL (r : Nat) (hr : r < 10) (S : List UInt8) : digS.extract r (r + 1) ++ ⟨S.toArray⟩ = ⟨(UInt8.ofNat (48 + r) :: S).toArray⟩ := by
  rw [digAt ⟨r, hr⟩]
  apply ByteArray.ext
  simp

def bodyMeasure (rest s : Value) : Nat := (intOf rest).toNat + match s with | .string b => if b.size = 0 then 1 else 0 | _ => 0

set_option maxHeartbeats 2000000 in
theorem Decimal_nonneg (n : Int) (h0 : 0 ≤ n) (h1 : n ≤ 9223372036854775807) (w : World) :
    Calls Tryd.prog 20 #[.int .i64 n] w fun e w' => e = .returned (.string (numB n)) ∧ w' = w := by
  go_enter Tryd.func20, Tryd.ntmps20
  go_wp2
  go_loop [4, 5] (fun rest s => ∃ (v : Nat) (S : List UInt8), DecInv n.toNat v S ∧ rest = .int .u64 v ∧ s = .string ⟨S.toArray⟩) (fun rest s => bodyMeasure rest s)
  case atStart => exact ⟨n.toNat, [], DecInv.start _, by rw [Int.toNat_of_nonneg h0], rfl⟩
  case round =>
    obtain ⟨v, S, hd, rfl, rfl⟩ := hrel
    have hS := hd.len (by omega)
    have hvu : v ≤ n.toNat := hd.1
    rcases Nat.eq_zero_or_pos v with hv | hv
    · subst hv
      cases S with
      | nil =>
        go_wp2
        go_roundw
        case rel => exact ⟨0, [48], hd.step (.inr rfl), rfl, congrArg Value.string (consL 0 (by decide) [])⟩
        case measure => simp only [bodyMeasure, intOf]; decide +kernel
      | cons x S =>
        have hn := hd.done rfl (by simp)
        clear hd
        have hne : (Lib.decDigits n.toNat).isEmpty = false := by rw [← hn]; rfl
        go_wp2
        go_ret
        exact ⟨by unfold numB Lib.itoa; rw [if_neg (by omega)]; rfl, rfl⟩
    · have hd' := Lib.hid (hd.step (.inl hv))
      have hB : (⟨S.toArray⟩ : ByteArray).size ≤ 20 := by rw [sizeL]; exact hS
      clear hd
      go_wp2
      go_roundw
      case rel => exact ⟨v / 10, _, hd'.out, congrArg (Value.int .u64) (by omega), congrArg Value.string (consL (v % 10) (Nat.mod_lt _ (by decide)) S)⟩
      case measure =>
        have e := consL (v % 10) (Nat.mod_lt _ (by decide)) S
        unfold digS at e
        rw [e]
        simp only [bodyMeasure, intOf, sizeL, List.length_cons]
        rw [if_neg (by omega)]
        omega


theorem wrapU64 (n : Int) : IntKind.u64.wrap n = n % 18446744073709551616 := by
  simp [IntKind.wrap, IntKind.signed, IntKind.bits]

theorem negWrap (n : Int) (h0 : n < 0) (h1 : -9223372036854775808 ≤ n) : IntKind.u64.wrap (-IntKind.u64.wrap n) = (n.natAbs : Int) := by
  rw [wrapU64, wrapU64]
  omega

theorem negNum (n : Int) (h : n < 0) : numB n = ⟨#[45]⟩ ++ ⟨(Lib.decDigits n.natAbs).toArray⟩ := by
  unfold numB Lib.itoa
  rw [if_pos h]
  apply ByteArray.ext
  simp

set_option maxHeartbeats 2000000 in
theorem Decimal_neg (n : Int) (h0 : n < 0) (h1 : -9223372036854775808 ≤ n) (w : World) :
    Calls Tryd.prog 20 #[.int .i64 n] w fun e w' => e = .returned (.string (numB n)) ∧ w' = w := by
  go_enter Tryd.func20, Tryd.ntmps20
  go_wp2
  go_loop [4, 5] (fun rest s => ∃ (v : Nat) (S : List UInt8), DecInv n.natAbs v S ∧ rest = .int .u64 v ∧ s = .string ⟨S.toArray⟩) (fun rest s => bodyMeasure rest s)
  case atStart => exact ⟨n.natAbs, [], DecInv.start _, by rw [negWrap n h0 h1], rfl⟩
  case round =>
    obtain ⟨v, S, hd, rfl, rfl⟩ := hrel
    have hS := hd.len (by omega)
    have hvu : v ≤ n.natAbs := hd.1
    rcases Nat.eq_zero_or_pos v with hv | hv
    · subst hv
      cases S with
      | nil =>
        go_wp2
        go_roundw
        case rel => exact ⟨0, [48], hd.step (.inr rfl), rfl, congrArg Value.string (consL 0 (by decide) [])⟩
        case measure => simp only [bodyMeasure, intOf]; decide +kernel
      | cons x S =>
        have hn := hd.done rfl (by simp)
        clear hd
        have hne : (Lib.decDigits n.natAbs).isEmpty = false := by rw [← hn]; rfl
        have hlen : (Lib.decDigits n.natAbs).length ≤ 20 := by rw [← hn]; exact hS
        go_wp2
        go_ret
        exact ⟨by rw [negNum n h0]; rfl, rfl⟩
    · have hd' := Lib.hid (hd.step (.inl hv))
      have hB : (⟨S.toArray⟩ : ByteArray).size ≤ 20 := by rw [sizeL]; exact hS
      clear hd
      go_wp2
      go_roundw
      case rel => exact ⟨v / 10, _, hd'.out, congrArg (Value.int .u64) (by omega), congrArg Value.string (consL (v % 10) (Nat.mod_lt _ (by decide)) S)⟩
      case measure =>
        have e := consL (v % 10) (Nat.mod_lt _ (by decide)) S
        unfold digS at e
        rw [e]
        simp only [bodyMeasure, intOf, sizeL, List.length_cons]
        rw [if_neg (by omega)]
        omega

theorem Decimal_calls (n : Int) (h0 : -9223372036854775808 ≤ n) (h1 : n ≤ 9223372036854775807) (w : World) :
    Calls Tryd.prog 20 #[.int .i64 n] w fun e w' => e = .returned (.string (numB n)) ∧ w' = w := by
  rcases Int.lt_or_le n 0 with h | h
  · exact Decimal_neg n h h0 w
  · exact Decimal_nonneg n h h1 w

end Go.Proofs.YtmadfppacfmpeaaDoor
