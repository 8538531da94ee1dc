/- The contract of the reference's Prefix. -/
import Derived.Test.YtdkkklhpfflpkaaPrefix
open Go Go.RowKit
namespace Go.Proofs.Ytdkkklhpfflpkaa

set_option maxHeartbeats 1000000 in
theorem RefPrefix_neg (l : List Nat) (hk : Key l) (n : Int) (hn : n < 0) (w : World) :
    Calls Try.prog 24 #[.agg (kv l), .int .i64 n] w fun e w' => e = .returned (.agg (kv (preC l (clampN n)))) ∧ Below w.heap.size w w' := by
  have HK := Lib.hid hk
  clear hk
  have st := St.init w
  go_enter Try.func24, Try.ntmps24
  go_wp2_with (first | (refine wpList_boxA (by assumption) rfl 23 _ rfl _ rfl ?_; intro b1 w1 st1; clear st) | (refine wpList_newA (by assumption) rfl 23 rfl _ zeroKey ?_; intro b2 w2 st2; clear st1))
  go_loopw [5] (fun i wr => ∃ (k : Int) (cur : List Nat), -1 ≤ k ∧ k ≤ 255 ∧ i = .int .i64 k ∧ Hid (0 ≤ k + 1 ∨ (256 < 0 ∧ k = 255)) ∧ Hid (IsPre l (k + 1).toNat cur) ∧ St w.heap.size w [(b2, kv zero32, 23), (b1, kv cur, 23)] wr) (fun i _ => (intOf i + 1).toNat)
  case atStart => exact ⟨255, l, by omega, by omega, rfl, by unfold Hid; omega, isPre_start HK.out, st2⟩
  case round =>
    obtain ⟨k, cur, k0, k1, rfl, hNk, hp, st3⟩ := hrel
    clear st2
    by_cases hlt : 0 ≤ k
    · have hk0 : 0 ≤ k := by omega
      have hkn : (k + 1).toNat = k.toNat + 1 := by omega
      have hcl : Hid (cur.length = 32) := hp.out.key.len
      have hc1 : ∀ wx : World, Calls Try.prog 17 #[.agg (kv cur), .int .i64 k] wx fun e w' => e = .returned (.int .i64 (bitN cur k.toNat : Nat)) ∧ Below wx.heap.size wx w' := fun wx => RefBit_in cur hp.out.key k hk0 (by omega) wx
      have hc2 : ∀ wx : World, Calls Try.prog 19 #[.agg (kv cur), .int .i64 k] wx fun e w' => e = .returned (.agg (kv (flipN cur k.toNat))) ∧ Below wx.heap.size wx w' := fun wx =>
        (RefFlip_calls cur hp.out.key k wx).mono fun e w' ⟨he, hw⟩ => ⟨by rw [he]; unfold flipI; rw [if_pos ⟨hk0, by omega⟩], hw⟩
      have HC1 := Lib.hid hc1
      have HC2 := Lib.hid hc2
      clear hc1 hc2
      have hNk' : 0 ≤ k - 1 + 1 ∨ (256 < 0 ∧ k - 1 = 255) := by omega
      by_cases hb : bitN cur k.toNat = 1
      · have Hp2 : Hid (IsPre l (k - 1 + 1).toNat (flipN cur k.toNat)) := by
          have h := hp.out
          rw [hkn] at h
          rw [show (k - 1 + 1).toNat = k.toNat by omega]
          exact isPre_flip h (by omega) hb
        have hcl2 : Hid ((flipN cur k.toNat).length = 32) := Hp2.out.key.len
        have hb1 : ((bitN cur k.toNat : Nat) : Int) = 1 := by omega
        rw [hb1] at HC1
        have HNk := Lib.hid hNk'
        clear hp hkn hb hb1 hNk hNk'
        go_wp2_with (first | (refine wpList_loadR rfl 23 _ rfl b1 rfl _ aggKey rfl _ _ (St.at (by assumption) (i := 1) rfl) (sizeKv hcl.out) ?_) | (go_at_call 17; refine (HC1.out _).mono ?_; rintro e w4 ⟨rfl, hbel⟩; have st4 := st3.call hbel; clear st3 hbel) | (go_at_call 19; refine (HC2.out _).mono ?_; rintro e w5 ⟨rfl, hbel⟩; have st5 := st4.call hbel; clear st4 hbel) | (refine wpList_storeR (by assumption) rfl 23 _ _ rfl 1 b1 rfl _ rfl _ _ rfl (sizeKv hcl2.out) (by show (kv (flipN cur k.toNat)).size = _; rw [kv_size, kv_size, hcl.out, hcl2.out]) (kv_one _) _ rfl ?_; intro w6 st6; clear st5))
        simp only [List.set_cons_succ, List.set_cons_zero] at st6
        go_roundw
        case rel => exact ⟨k - 1, flipN cur k.toNat, by omega, by omega, rfl, HNk.out, Hp2.out, st6⟩
        case measure => simp [intOf]; omega
      · have Hp2 : Hid (IsPre l (k - 1 + 1).toNat cur) := by
          have h := hp.out
          rw [hkn] at h
          rw [show (k - 1 + 1).toNat = k.toNat by omega]
          exact isPre_keep h (by omega) hb
        have hb1 : ((bitN cur k.toNat : Nat) : Int) = 0 := by have := bitN_lt cur k.toNat; omega
        rw [hb1] at HC1
        have HNk := Lib.hid hNk'
        clear hp hkn hb hb1 hNk hNk'
        go_wp2_with (first | (refine wpList_loadR rfl 23 _ rfl b1 rfl _ aggKey rfl _ _ (St.at (by assumption) (i := 1) rfl) (sizeKv hcl.out) ?_) | (go_at_call 17; refine (HC1.out _).mono ?_; rintro e w4 ⟨rfl, hbel⟩; have st4 := st3.call hbel; clear st3 hbel))
        go_roundw
        case rel => exact ⟨k - 1, cur, by omega, by omega, rfl, HNk.out, Hp2.out, st4⟩
        case measure => simp [intOf]; omega
    · have e : Hid (cur = preC l (clampN n)) := by
        have hc : (k + 1).toNat = clampN n := by
          unfold clampN
          rcases hNk.out with h | ⟨h, h'⟩ <;> omega
        have h := isPre_end HK.out hp.out
        rw [hc] at h
        exact h
      rw [e.out] at st3
      have hl2 : Hid ((preC l (clampN n)).length = 32) := (HK.out.pre _).len
      clear e hp hNk
      go_wp2_with (first | (refine wpList_loadR rfl 23 _ rfl b1 rfl _ aggKey rfl _ _ (st3.at (i := 1) rfl) (sizeKv hl2.out) ?_) | (refine wpList_storeR st3 rfl 23 _ _ rfl 0 b2 rfl _ rfl _ _ rfl (sizeKv hl2.out) (by show (kv (preC l (clampN n))).size = _; rw [kv_size, hl2.out, kv_size]; rfl) (kv_one _) _ rfl ?_; intro w6 st6; clear st3))
      exact ret_row rfl b2 _ _ _ rfl (st6.at (i := 0) rfl) aggKey rfl (sizeKv hl2.out) rfl ⟨rfl, st6.below⟩

set_option maxHeartbeats 1000000 in
theorem RefPrefix_pos (l : List Nat) (hk : Key l) (n : Int) (hn : 0 ≤ n) (hn1 : n ≤ 9223372036854775807) (w : World) :
    Calls Try.prog 24 #[.agg (kv l), .int .i64 n] w fun e w' => e = .returned (.agg (kv (preC l (clampN n)))) ∧ Below w.heap.size w w' := by
  have HK := Lib.hid hk
  clear hk
  have st := St.init w
  go_enter Try.func24, Try.ntmps24
  go_wp2_with (first | (refine wpList_boxA (by assumption) rfl 23 _ rfl _ rfl ?_; intro b1 w1 st1; clear st) | (refine wpList_newA (by assumption) rfl 23 rfl _ zeroKey ?_; intro b2 w2 st2; clear st1))
  go_loopw [5] (fun i wr => ∃ (k : Int) (cur : List Nat), -1 ≤ k ∧ k ≤ 255 ∧ i = .int .i64 k ∧ Hid (n ≤ k + 1 ∨ (256 < n ∧ k = 255)) ∧ Hid (IsPre l (k + 1).toNat cur) ∧ St w.heap.size w [(b2, kv zero32, 23), (b1, kv cur, 23)] wr) (fun i _ => (intOf i + 1).toNat)
  case atStart => exact ⟨255, l, by omega, by omega, rfl, by unfold Hid; omega, isPre_start HK.out, st2⟩
  case round =>
    obtain ⟨k, cur, k0, k1, rfl, hNk, hp, st3⟩ := hrel
    clear st2
    by_cases hlt : n ≤ k
    · have hk0 : 0 ≤ k := by omega
      have hkn : (k + 1).toNat = k.toNat + 1 := by omega
      have hcl : Hid (cur.length = 32) := hp.out.key.len
      have hc1 : ∀ wx : World, Calls Try.prog 17 #[.agg (kv cur), .int .i64 k] wx fun e w' => e = .returned (.int .i64 (bitN cur k.toNat : Nat)) ∧ Below wx.heap.size wx w' := fun wx => RefBit_in cur hp.out.key k hk0 (by omega) wx
      have hc2 : ∀ wx : World, Calls Try.prog 19 #[.agg (kv cur), .int .i64 k] wx fun e w' => e = .returned (.agg (kv (flipN cur k.toNat))) ∧ Below wx.heap.size wx w' := fun wx =>
        (RefFlip_calls cur hp.out.key k wx).mono fun e w' ⟨he, hw⟩ => ⟨by rw [he]; unfold flipI; rw [if_pos ⟨hk0, by omega⟩], hw⟩
      have HC1 := Lib.hid hc1
      have HC2 := Lib.hid hc2
      clear hc1 hc2
      have hNk' : n ≤ k - 1 + 1 ∨ (256 < n ∧ k - 1 = 255) := by omega
      by_cases hb : bitN cur k.toNat = 1
      · have Hp2 : Hid (IsPre l (k - 1 + 1).toNat (flipN cur k.toNat)) := by
          have h := hp.out
          rw [hkn] at h
          rw [show (k - 1 + 1).toNat = k.toNat by omega]
          exact isPre_flip h (by omega) hb
        have hcl2 : Hid ((flipN cur k.toNat).length = 32) := Hp2.out.key.len
        have hb1 : ((bitN cur k.toNat : Nat) : Int) = 1 := by omega
        rw [hb1] at HC1
        have HNk := Lib.hid hNk'
        clear hp hkn hb hb1 hNk hNk'
        go_wp2_with (first | (refine wpList_loadR rfl 23 _ rfl b1 rfl _ aggKey rfl _ _ (St.at (by assumption) (i := 1) rfl) (sizeKv hcl.out) ?_) | (go_at_call 17; refine (HC1.out _).mono ?_; rintro e w4 ⟨rfl, hbel⟩; have st4 := st3.call hbel; clear st3 hbel) | (go_at_call 19; refine (HC2.out _).mono ?_; rintro e w5 ⟨rfl, hbel⟩; have st5 := st4.call hbel; clear st4 hbel) | (refine wpList_storeR (by assumption) rfl 23 _ _ rfl 1 b1 rfl _ rfl _ _ rfl (sizeKv hcl2.out) (by show (kv (flipN cur k.toNat)).size = _; rw [kv_size, kv_size, hcl.out, hcl2.out]) (kv_one _) _ rfl ?_; intro w6 st6; clear st5))
        simp only [List.set_cons_succ, List.set_cons_zero] at st6
        go_roundw
        case rel => exact ⟨k - 1, flipN cur k.toNat, by omega, by omega, rfl, HNk.out, Hp2.out, st6⟩
        case measure => simp [intOf]; omega
      · have Hp2 : Hid (IsPre l (k - 1 + 1).toNat cur) := by
          have h := hp.out
          rw [hkn] at h
          rw [show (k - 1 + 1).toNat = k.toNat by omega]
          exact isPre_keep h (by omega) hb
        have hb1 : ((bitN cur k.toNat : Nat) : Int) = 0 := by have := bitN_lt cur k.toNat; omega
        rw [hb1] at HC1
        have HNk := Lib.hid hNk'
        clear hp hkn hb hb1 hNk hNk'
        go_wp2_with (first | (refine wpList_loadR rfl 23 _ rfl b1 rfl _ aggKey rfl _ _ (St.at (by assumption) (i := 1) rfl) (sizeKv hcl.out) ?_) | (go_at_call 17; refine (HC1.out _).mono ?_; rintro e w4 ⟨rfl, hbel⟩; have st4 := st3.call hbel; clear st3 hbel))
        go_roundw
        case rel => exact ⟨k - 1, cur, by omega, by omega, rfl, HNk.out, Hp2.out, st4⟩
        case measure => simp [intOf]; omega
    · have e : Hid (cur = preC l (clampN n)) := by
        have hc : (k + 1).toNat = clampN n := by
          unfold clampN
          rcases hNk.out with h | ⟨h, h'⟩ <;> omega
        have h := isPre_end HK.out hp.out
        rw [hc] at h
        exact h
      rw [e.out] at st3
      have hl2 : Hid ((preC l (clampN n)).length = 32) := (HK.out.pre _).len
      clear e hp hNk
      go_wp2_with (first | (refine wpList_loadR rfl 23 _ rfl b1 rfl _ aggKey rfl _ _ (st3.at (i := 1) rfl) (sizeKv hl2.out) ?_) | (refine wpList_storeR st3 rfl 23 _ _ rfl 0 b2 rfl _ rfl _ _ rfl (sizeKv hl2.out) (by show (kv (preC l (clampN n))).size = _; rw [kv_size, hl2.out, kv_size]; rfl) (kv_one _) _ rfl ?_; intro w6 st6; clear st3))
      exact ret_row rfl b2 _ _ _ rfl (st6.at (i := 0) rfl) aggKey rfl (sizeKv hl2.out) rfl ⟨rfl, st6.below⟩

theorem RefPrefix_calls (l : List Nat) (hk : Key l) (n : Int) (hn1 : n ≤ 9223372036854775807) (w : World) :
    Calls Try.prog 24 #[.agg (kv l), .int .i64 n] w fun e w' => e = .returned (.agg (kv (preC l (clampN n)))) ∧ Below w.heap.size w w' := by
  by_cases hn : n < 0
  · exact RefPrefix_neg l hk n hn w
  · exact RefPrefix_pos l hk n (by omega) hn1 w

end Go.Proofs.Ytdkkklhpfflpkaa
