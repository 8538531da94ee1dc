/- The contract of Last of package bitmap. -/
import Derived.Test.YtdkkklhpfflpkaaFold
open Go Go.RowKit
namespace Go.Proofs.Ytdkkklhpfflpkaa

/-- Between two rounds of Last: the depths up to L have been struck, and L is one of them, or -1. -/
structure LastInv (b : List Nat) (L : Int) (r : List Nat) : Prop where
  key : Key r
  lo : -1 ≤ L
  hi : L < 256
  top : 0 ≤ L → bitN b L.toNat = 1
  bit : ∀ j < 256, bitN r j = if (j : Int) ≤ L then 0 else bitN b j

theorem lastInv_start {b : List Nat} (h : Key b) : LastInv b (-1) b := ⟨h, by decide, by decide, fun h => absurd h (by decide), fun j _ => by rw [if_neg (by omega)]⟩

theorem lastInv_end {b r : List Nat} {L : Int} (h : LastInv b L r) (hz : r = zero32) : lastI b = L :=
  lastI_unique ⟨h.lo, by have := h.hi; omega, h.top, fun j h1 h2 => by
    have := h.bit j h2
    rw [if_neg (by omega), hz, zero_bit] at this
    exact this.symm⟩

theorem lastInv_step {b r : List Nat} {L : Int} (h : LastInv b L r) (hz : r ≠ zero32) :
    comN r zero32 < 256 ∧ L < (comN r zero32 : Nat) ∧ LastInv b (comN r zero32 : Nat) (andI r (comN r zero32 : Nat)) := by
  have hc : comN r zero32 < 256 := by
    have := comN_le r zero32
    rcases Nat.lt_or_ge (comN r zero32) 256 with h1 | h1
    · exact h1
    · exact absurd ((comN_256 h.key key_zero).1 (by omega)) hz
  have hd := comN_diff r zero32 hc
  rw [zero_bit] at hd
  have h1 := h.bit _ hc
  have h2 : ¬ ((comN r zero32 : Nat) : Int) ≤ L := fun hle => hd (by rw [h1, if_pos hle])
  rw [if_neg h2] at h1
  have hlt := bitN_lt b (comN r zero32)
  refine ⟨hc, by omega, h.key.and _, by omega, by omega, fun _ => ?_, fun j hj => ?_⟩
  · rw [Int.toNat_natCast]; omega
  · rw [andI_bit h.key _ j hj]
    by_cases hjc : (j : Int) = (comN r zero32 : Nat)
    · rw [if_pos hjc, if_pos (by omega)]
    · rw [if_neg hjc]
      by_cases hlt2 : j < comN r zero32
      · rw [if_pos (by omega), comN_same r zero32 j hlt2, zero_bit]
      · rw [if_neg (by omega), h.bit j hj, if_neg (by omega)]

set_option maxHeartbeats 1000000 in
theorem Last_calls (b : List Nat) (hk : Key b) (w : World) :
    Calls Try.prog 36 #[.agg (kv b)] w fun e w' => e = .returned (.int .i64 (lastI b)) ∧ Below w.heap.size w w' := by
  have HK := Lib.hid hk
  have hlen : Hid (b.length = 32) := hk.len
  have hlz : Hid (zero32.length = 32) := key_zero.len
  have hg := guardBm
  clear hk
  have st := St.init w
  go_enter Try.func36, Try.ntmps36
  go_wp2_with (first | (refine wpList_boxA (by assumption) rfl 34 _ rfl _ rfl ?_; intro b1 w1 st1; clear st) | (refine wpList_newA st1 rfl 34 rfl _ zeroBm ?_; intro b2 w2 st2; clear st1) | (refine wpList_loadR rfl 34 _ rfl b1 rfl _ aggBm rfl _ _ (St.at (by assumption) (i := 0) rfl) (sizeBm hlen.out) ?_) | (refine wpList_storeR st2 rfl 34 _ _ rfl 0 b2 rfl _ rfl _ _ rfl (sizeBm hlen.out) (by show (kv b).size = _; rw [kv_size, hlen.out, kv_size, hlz.out]) (kv_one _) _ rfl ?_; intro w3 st3; clear st2))
  simp only [List.set_cons_zero] at st3
  go_loopw [3, 4] (fun last p wr => ∃ (L : Int) (r : List Nat) (bp : Nat), last = .int .i64 L ∧ p = .pointer (some ⟨bp, 0, none⟩) ∧ Hid (LastInv b L r) ∧ St w.heap.size w [(bp, kv r, 34), (b1, kv b, 34)] wr) (fun last _ _ => (255 - intOf last).toNat)
  case atStart => exact ⟨-1, b, b2, rfl, rfl, lastInv_start HK.out, st3⟩
  case round =>
    obtain ⟨L, r, bp, rfl, rfl, hinv, st4⟩ := hrel
    clear st3
    have hlr : Hid (r.length = 32) := hinv.out.key.len
    by_cases hz : r = zero32
    · have e : Hid (lastI b = L) := lastInv_end hinv.out hz
      have hq : ∀ w, (Op.equalIn 10000 34 (.agg (kv r)) (.agg (kv zero32))).run Try.prog w = .ok true w := fun w => by rw [eqlBm r zero32 hlr.out hlz.out w]; simp [hz]
      clear hinv hz
      go_wp2_with (first | (refine wpList_loadR rfl 34 _ rfl bp rfl _ aggBm rfl _ _ (St.at (by assumption) (i := 0) rfl) (sizeBm hlr.out) ?_) | (refine wpList_build rfl 34 _ rfl [] ?_ _ builtBm0 ?_; · (simp; done)))
      go_ret
      exact ⟨ret_int e.out.symm, st4.below⟩
    · obtain ⟨hc, hLc, hnext⟩ := lastInv_step hinv.out hz
      have Hnext := Lib.hid hnext
      have hq : ∀ w, (Op.equalIn 10000 34 (.agg (kv r)) (.agg (kv zero32))).run Try.prog w = .ok false w := fun w => by rw [eqlBm r zero32 hlr.out hlz.out w]; simp [hz]
      have HC := Lib.hid (Common_calls r zero32 hinv.out.key key_zero)
      have HW := Lib.hid (Without_calls r hinv.out.key (comN r zero32 : Nat))
      have hl3 : Hid ((andI r (comN r zero32 : Nat)).length = 32) := hnext.key.len
      have hL0 := hinv.out.lo
      have hc' : ((comN r zero32 : Nat) : Int) < 256 := by omega
      clear hinv hz hnext hc
      generalize andI r (comN r zero32 : Nat) = r' at *
      generalize ((comN r zero32 : Nat) : Int) = C at *
      go_wp2_with (first | (refine wpList_loadR rfl 34 _ rfl bp rfl _ aggBm rfl _ _ (St.at (by assumption) (i := 0) rfl) (sizeBm hlr.out) ?_) | (refine wpList_build rfl 34 _ rfl [] ?_ _ builtBm0 ?_; · (simp; done)) | (refine wpList_build rfl 23 _ rfl [] ?_ _ builtKey0 ?_; · (simp; done)) | (go_at_call 20; refine (HC.out _).mono ?_; rintro e wn ⟨rfl, hbel⟩; have stn := St.call (by assumption) hbel; clear hbel) | (refine wpList_newA stn rfl 34 rfl _ zeroBm ?_; intro b5 w5 st5) | (refine wpList_storeR st5 rfl 34 _ _ rfl 0 b5 rfl _ rfl _ _ rfl (sizeBm hlr.out) (by show (kv r).size = _; rw [kv_size, hlr.out, kv_size, hlz.out]) (kv_one _) _ rfl ?_; intro w6 st6; clear st5) | (refine wpList_loadR rfl 34 _ rfl b5 rfl _ aggBm rfl _ _ (St.at (by assumption) (i := 0) rfl) (sizeBm hlr.out) ?_) | (go_at_call 32; refine (HW.out _).mono ?_; rintro e w7 ⟨rfl, hbel⟩; have st7 := st6.call hbel; clear st6 hbel) | (refine wpList_storeR st7 rfl 34 _ _ rfl 0 b5 rfl _ rfl _ _ rfl (sizeBm hl3.out) (by show (kv r').size = (kv r).size; rw [kv_size, hl3.out, kv_size, hlr.out]) (kv_one _) _ rfl ?_; intro w8 st8; clear st7))
      have st9 : St w.heap.size w [(b5, kv r', 34), (b1, kv b, 34)] w8 := by
        refine ⟨st8.below, st8.size, fun p hp => st8.rows p ?_, ?_⟩
        · simp only [List.mem_cons, List.not_mem_nil, or_false] at hp
          rcases hp with rfl | rfl
          · exact List.mem_cons_self
          · exact List.mem_cons_of_mem _ (List.mem_cons_of_mem _ List.mem_cons_self)
        · have hn := st8.nodup
          simp only [List.set_cons_zero, List.map_cons, List.map_nil, List.nodup_cons, List.mem_cons, List.not_mem_nil, or_false, not_or] at hn ⊢
          exact ⟨hn.1.2, by simp, by simp⟩
      simp only [Act.put]
      go_roundw
      case rel => exact ⟨C, r', b5, rfl, rfl, Hnext.out, st9⟩
      case measure => simp [intOf]; omega

end Go.Proofs.Ytdkkklhpfflpkaa
