/- Contracts of Flip of package bits and of its reference, for every number. -/
import Derived.Test.YtdkkklhpfflpkaaFlip
open Go Go.RowKit
namespace Go.Proofs.Ytdkkklhpfflpkaa

theorem flipN_len (l : List Nat) (i : Nat) : (flipN l i).length = l.length := by unfold flipN; rw [List.length_set]

theorem Key.flip {l : List Nat} (h : Key l) (i : Nat) : Key (flipN l i) := by
  refine h.set _ _ ?_
  have h1 := h.get (i / 8)
  have h2 := valN_le i
  exact Nat.xor_lt_two_pow (n := 8) h1 (by omega)

theorem Flip_out (l : List Nat) (hk : Key l) (i : Int) (h : ¬ (0 ≤ i ∧ i < 256)) (w : World) :
    Calls Try.prog 18 #[.agg (kv l), .int .i64 i] w fun e w' => e = .returned (.agg (kv l)) ∧ Below w.heap.size w w' := by
  have hlen : Hid (l.length = 32) := hk.len
  clear hk
  have st := St.init w
  by_cases h0 : i < 0
  all_goals
    first
    | have h1 : 256 ≤ i := by omega
      have h2 : 0 ≤ i := by omega
      clear h h0
    | clear h
    go_enter Try.func18, Try.ntmps18
    go_wp2_with (first | (refine wpList_boxA (by assumption) rfl 23 _ rfl _ rfl ?_; intro b1 w1 st1; clear st) | (refine wpList_newA (by assumption) rfl 23 rfl _ zeroKey ?_; intro b2 w2 st2; clear st1) | (refine wpList_loadR rfl 23 _ rfl b1 rfl _ aggKey rfl _ _ (st2.at (i := 1) rfl) (sizeKv hlen.out) ?_) | (refine wpList_storeR st2 rfl 23 _ _ rfl 0 b2 rfl _ rfl _ _ rfl (sizeKv hlen.out) (by show (kv l).size = _; rw [kv_size, hlen.out, kv_size]; rfl) (kv_one l) _ rfl ?_; intro w5 st5; clear st2))
    exact ret_row rfl b2 _ _ _ rfl (st5.at (i := 0) rfl) aggKey rfl (sizeKv hlen.out) rfl ⟨rfl, st5.below⟩

theorem Flip_calls (l : List Nat) (hk : Key l) (i : Int) (w : World) :
    Calls Try.prog 18 #[.agg (kv l), .int .i64 i] w fun e w' => e = .returned (.agg (kv (flipI l i))) ∧ Below w.heap.size w w' := by
  unfold flipI
  by_cases h : 0 ≤ i ∧ i < 256
  · rw [if_pos h]; exact Flip_in l hk i h.1 h.2 w
  · rw [if_neg h]; exact Flip_out l hk i h w

theorem valueB (i : Int) (h0 : 0 ≤ i) (h1 : i < 256) (w : World) :
    Calls Try.prog 38 #[.int .i64 i] w fun e w' => e = .returned (.int .i64 (valN i.toNat : Nat)) ∧ Below w.heap.size w w' :=
  (value_calls i h0 h1 w).mono fun _ _ ⟨he, hw⟩ => ⟨he, by rw [← hw]; exact Below.refl _ _⟩

/-! xor with a power of two -/
theorem xor_two_pow : ∀ x < 256, ∀ j < 8, x ^^^ 2 ^ j = if x / 2 ^ j % 2 = 0 then x + 2 ^ j else x - 2 ^ j := by decide +kernel
theorem xor_fits : ∀ x < 256, ∀ j < 8, (x / 2 ^ j % 2 = 0 → x + 2 ^ j < 256) ∧ (x / 2 ^ j % 2 = 1 → 2 ^ j ≤ x) := by decide +kernel

theorem xor_yes (l : List Nat) (hk : Key l) (i : Nat) (h : bitN l i = 0) : l.getD (i / 8) 0 ^^^ valN i = l.getD (i / 8) 0 + valN i ∧ l.getD (i / 8) 0 + valN i < 256 := by
  have h1 := xor_two_pow _ (hk.get (i / 8)) (7 - i % 8) (by omega)
  have h2 := (xor_fits _ (hk.get (i / 8)) (7 - i % 8) (by omega)).1 h
  unfold bitN at h
  rw [if_pos h] at h1
  exact ⟨h1, h2⟩

theorem xor_no (l : List Nat) (hk : Key l) (i : Nat) (h : bitN l i = 1) : l.getD (i / 8) 0 ^^^ valN i = l.getD (i / 8) 0 - valN i ∧ valN i ≤ l.getD (i / 8) 0 := by
  have h1 := xor_two_pow _ (hk.get (i / 8)) (7 - i % 8) (by omega)
  have h2 := (xor_fits _ (hk.get (i / 8)) (7 - i % 8) (by omega)).2 h
  unfold bitN at h
  rw [if_neg (by omega)] at h1
  exact ⟨h1, h2⟩

/-! the reference's Flip -/
theorem RefFlip_0 (l : List Nat) (hk : Key l) (i : Int) (h0 : 0 ≤ i) (h1 : i < 256) (hb : bitN l i.toNat = 0) (w : World) :
    Calls Try.prog 19 #[.agg (kv l), .int .i64 i] w fun e w' => e = .returned (.agg (kv (flipN l i.toNat))) ∧ Below w.heap.size w w' := by
  have hx : (kv l)[(i / 8).toNat]? = some (.int .u8 (l.getD (i / 8).toNat 0 : Nat)) := kv_get l _ (by rw [hk.len]; omega)
  have hc := hk.get (i / 8).toNat
  have hc0 : (0 : Int) ≤ (l.getD (i / 8).toNat 0 : Nat) := by omega
  have hc1 : ((l.getD (i / 8).toNat 0 : Nat) : Int) < 256 := by omega
  have hy := xor_yes l hk i.toNat hb
  have hd : (i / 8).toNat = i.toNat / 8 := by omega
  have he0 : ((l.getD (i / 8).toNat 0 : Nat) : Int) + (valN i.toNat : Nat) < 256 := by rw [hd]; omega
  have He : Hid ((kv l).setIfInBounds (i / 8).toNat (.int .u8 (((l.getD (i / 8).toNat 0 : Nat) : Int) + (valN i.toNat : Nat))) = kv (flipN l i.toNat)) := by
    unfold Hid flipN
    rw [hd, hy.1, ← kv_set, Int.natCast_add]
  have hv0 : (0 : Int) ≤ (valN i.toNat : Nat) := by omega
  have hcall : ∀ wx : World, Calls Try.prog 17 #[.agg (kv l), .int .i64 i] wx fun e w' => e = .returned (.int .i64 0) ∧ Below wx.heap.size wx w' := fun wx =>
    (RefBit_in l hk i h0 h1 wx).mono fun e w' ⟨he, hw⟩ => ⟨by rw [he, hb]; rfl, hw⟩
  have hval : ∀ wx : World, Calls Try.prog 38 #[.int .i64 i] wx fun e w' => e = .returned (.int .i64 (valN i.toNat : Nat)) ∧ Below wx.heap.size wx w' := valueB i h0 h1
  have hlen : Hid (l.length = 32) := hk.len
  have hlen2 : Hid ((flipN l i.toNat).length = 32) := by unfold Hid; rw [flipN_len]; exact hk.len
  clear hc hk hy hb hd
  generalize ((l.getD (i / 8).toNat 0 : Nat) : Int) = z at *
  generalize ((valN i.toNat : Nat) : Int) = v at *
  generalize flipN l i.toNat = l' at *
  have Hcall := Lib.hid hcall
  have Hval := Lib.hid hval
  clear hcall hval
  have st := St.init w
  go_enter Try.func19, Try.ntmps19
  go_wp2_with (first | (refine wpList_boxA (by assumption) rfl 23 _ rfl _ rfl ?_; intro b1 w1 st1; clear st) | (refine wpList_newA (by assumption) rfl 23 rfl _ zeroKey ?_; intro b2 w2 st2; clear st1) | (refine wpList_loadR rfl 23 _ rfl b1 rfl _ aggKey rfl _ _ (st2.at (i := 1) rfl) (sizeKv hlen.out) ?_) | (go_at_call 17; refine (Hcall.out _).mono ?_; rintro e w3 ⟨rfl, hb⟩; have st3 := st2.call hb; clear st2 hb))
  refine region_inv 12 st3 mixed (by kernel_rfl) ?_
  intro I hI hI'
  have q : ∀ wx, I wx → wx.cell? ⟨b1, (i/8).toNat, none⟩ = some (.int .u8 z) := fun wx hw => ((hI wx hw).cell (i := 1) rfl _).trans hx
  simp only [List.take_succ_cons, List.take_zero, List.drop_succ_cons, List.drop_zero]
  iterate 8
    (refine Inv.wpInv_step (fun K hK => ?_); go_simp; apply inv_run; · (intro wx hw; have q1 := q wx hw; go_simp; (try go_ints); (try go_simp); (try (rw [if_pos (by omega)])); (try go_simp); (first | done | rfl))
     refine hK _ ?_; clear hK K)
  (refine Inv.wpInv_step (fun K hK => ?_); go_simp; refine inv_call hI hI' 38 #[.int .i64 i] ?_ (fun wx stx => Hval.out wx) ?_; · (intro wx hw; go_simp)
   refine hK _ ?_; clear hK K)
  iterate 3
    (refine Inv.wpInv_step (fun K hK => ?_); go_simp; apply inv_run; · (intro wx hw; have q1 := q wx hw; go_simp; (try go_ints); (try go_simp); (try (rw [if_pos (by omega)])); (try go_simp); (first | done | rfl))
     refine hK _ ?_; clear hK K)
  clear q hI hI'
  refine Inv.wpInv_nil ?_
  intro w4 st4
  clear st3
  refine wpList_storeC st4 rfl 5 _ _ rfl 1 b1 (i/8).toNat rfl _ rfl _ _ rfl sizeByte rfl (by rw [kv_size, hlen.out]; omega) rfl _ He.out _ rfl ?_
  intro w5 st5
  clear st4
  simp only [List.set_cons_succ, List.set_cons_zero] at st5
  clear He hx
  go_wp2_with (first | (refine wpList_loadR rfl 23 _ rfl b1 rfl _ aggKey rfl _ _ (st5.at (i := 1) rfl) (sizeKv hlen2.out) ?_) | (refine wpList_storeR st5 rfl 23 _ _ rfl 0 b2 rfl _ rfl _ _ rfl (sizeKv hlen2.out) (by show (kv l').size = _; rw [kv_size, hlen2.out, kv_size]; rfl) (kv_one l') _ rfl ?_; intro w6 st6; clear st5))
  exact ret_row rfl b2 _ _ _ rfl (st6.at (i := 0) rfl) aggKey rfl (sizeKv hlen2.out) rfl ⟨rfl, st6.below⟩

theorem RefFlip_1 (l : List Nat) (hk : Key l) (i : Int) (h0 : 0 ≤ i) (h1 : i < 256) (hb : bitN l i.toNat = 1) (w : World) :
    Calls Try.prog 19 #[.agg (kv l), .int .i64 i] w fun e w' => e = .returned (.agg (kv (flipN l i.toNat))) ∧ Below w.heap.size w w' := by
  have hx : (kv l)[(i / 8).toNat]? = some (.int .u8 (l.getD (i / 8).toNat 0 : Nat)) := kv_get l _ (by rw [hk.len]; omega)
  have hc := hk.get (i / 8).toNat
  have hc0 : (0 : Int) ≤ (l.getD (i / 8).toNat 0 : Nat) := by omega
  have hc1 : ((l.getD (i / 8).toNat 0 : Nat) : Int) < 256 := by omega
  have hy := xor_no l hk i.toNat hb
  have hd : (i / 8).toNat = i.toNat / 8 := by omega
  have he0 : ((valN i.toNat : Nat) : Int) ≤ (l.getD (i / 8).toNat 0 : Nat) := by rw [hd]; omega
  have He : Hid ((kv l).setIfInBounds (i / 8).toNat (.int .u8 (((l.getD (i / 8).toNat 0 : Nat) : Int) - (valN i.toNat : Nat))) = kv (flipN l i.toNat)) := by
    unfold Hid flipN
    rw [hd, hy.1, ← kv_set, Int.natCast_sub hy.2]
  have hv0 : (0 : Int) ≤ (valN i.toNat : Nat) := by omega
  have hcall : ∀ wx : World, Calls Try.prog 17 #[.agg (kv l), .int .i64 i] wx fun e w' => e = .returned (.int .i64 1) ∧ Below wx.heap.size wx w' := fun wx =>
    (RefBit_in l hk i h0 h1 wx).mono fun e w' ⟨he, hw⟩ => ⟨by rw [he, hb]; rfl, hw⟩
  have hval : ∀ wx : World, Calls Try.prog 38 #[.int .i64 i] wx fun e w' => e = .returned (.int .i64 (valN i.toNat : Nat)) ∧ Below wx.heap.size wx w' := valueB i h0 h1
  have hlen : Hid (l.length = 32) := hk.len
  have hlen2 : Hid ((flipN l i.toNat).length = 32) := by unfold Hid; rw [flipN_len]; exact hk.len
  clear hc hk hy hb hd
  generalize ((l.getD (i / 8).toNat 0 : Nat) : Int) = z at *
  generalize ((valN i.toNat : Nat) : Int) = v at *
  generalize flipN l i.toNat = l' at *
  have Hcall := Lib.hid hcall
  have Hval := Lib.hid hval
  clear hcall hval
  have st := St.init w
  go_enter Try.func19, Try.ntmps19
  go_wp2_with (first | (refine wpList_boxA (by assumption) rfl 23 _ rfl _ rfl ?_; intro b1 w1 st1; clear st) | (refine wpList_newA (by assumption) rfl 23 rfl _ zeroKey ?_; intro b2 w2 st2; clear st1) | (refine wpList_loadR rfl 23 _ rfl b1 rfl _ aggKey rfl _ _ (st2.at (i := 1) rfl) (sizeKv hlen.out) ?_) | (go_at_call 17; refine (Hcall.out _).mono ?_; rintro e w3 ⟨rfl, hb⟩; have st3 := st2.call hb; clear st2 hb))
  refine region_inv 12 st3 mixed (by kernel_rfl) ?_
  intro I hI hI'
  have q : ∀ wx, I wx → wx.cell? ⟨b1, (i/8).toNat, none⟩ = some (.int .u8 z) := fun wx hw => ((hI wx hw).cell (i := 1) rfl _).trans hx
  simp only [List.take_succ_cons, List.take_zero, List.drop_succ_cons, List.drop_zero]
  iterate 8
    (refine Inv.wpInv_step (fun K hK => ?_); go_simp; apply inv_run; · (intro wx hw; have q1 := q wx hw; go_simp; (try go_ints); (try go_simp); (try (rw [if_pos (by omega)])); (try go_simp); (first | done | rfl))
     refine hK _ ?_; clear hK K)
  (refine Inv.wpInv_step (fun K hK => ?_); go_simp; refine inv_call hI hI' 38 #[.int .i64 i] ?_ (fun wx stx => Hval.out wx) ?_; · (intro wx hw; go_simp)
   refine hK _ ?_; clear hK K)
  iterate 3
    (refine Inv.wpInv_step (fun K hK => ?_); go_simp; apply inv_run; · (intro wx hw; have q1 := q wx hw; go_simp; (try go_ints); (try go_simp); (try (rw [if_pos (by omega)])); (try go_simp); (first | done | rfl))
     refine hK _ ?_; clear hK K)
  clear q hI hI'
  refine Inv.wpInv_nil ?_
  intro w4 st4
  clear st3
  refine wpList_storeC st4 rfl 5 _ _ rfl 1 b1 (i/8).toNat rfl _ rfl _ _ rfl sizeByte rfl (by rw [kv_size, hlen.out]; omega) rfl _ He.out _ rfl ?_
  intro w5 st5
  clear st4
  simp only [List.set_cons_succ, List.set_cons_zero] at st5
  clear He hx
  go_wp2_with (first | (refine wpList_loadR rfl 23 _ rfl b1 rfl _ aggKey rfl _ _ (st5.at (i := 1) rfl) (sizeKv hlen2.out) ?_) | (refine wpList_storeR st5 rfl 23 _ _ rfl 0 b2 rfl _ rfl _ _ rfl (sizeKv hlen2.out) (by show (kv l').size = _; rw [kv_size, hlen2.out, kv_size]; rfl) (kv_one l') _ rfl ?_; intro w6 st6; clear st5))
  exact ret_row rfl b2 _ _ _ rfl (st6.at (i := 0) rfl) aggKey rfl (sizeKv hlen2.out) rfl ⟨rfl, st6.below⟩

theorem RefFlip_out (l : List Nat) (hk : Key l) (i : Int) (h : ¬ (0 ≤ i ∧ i < 256)) (w : World) :
    Calls Try.prog 19 #[.agg (kv l), .int .i64 i] w fun e w' => e = .returned (.agg (kv l)) ∧ Below w.heap.size w w' := by
  have hlen : Hid (l.length = 32) := hk.len
  have hcall : ∀ wx : World, Calls Try.prog 17 #[.agg (kv l), .int .i64 i] wx fun e w' => e = .returned (.int .i64 (-1)) ∧ Below wx.heap.size wx w' := fun wx =>
    (RefBit_calls l hk i wx).mono fun e w' ⟨he, hw⟩ => ⟨by rw [he]; unfold bitI; rw [if_neg h], hw⟩
  have Hcall := Lib.hid hcall
  clear hcall hk h
  have st := St.init w
  go_enter Try.func19, Try.ntmps19
  go_wp2_with (first | (refine wpList_boxA (by assumption) rfl 23 _ rfl _ rfl ?_; intro b1 w1 st1; clear st) | (refine wpList_newA (by assumption) rfl 23 rfl _ zeroKey ?_; intro b2 w2 st2; clear st1) | (refine wpList_loadR rfl 23 _ rfl b1 rfl _ aggKey rfl _ _ (St.at (by assumption) (i := 1) rfl) (sizeKv hlen.out) ?_) | (go_at_call 17; refine (Hcall.out _).mono ?_; rintro e w3 ⟨rfl, hb⟩; have st3 := st2.call hb; clear st2 hb) | (refine wpList_storeR st3 rfl 23 _ _ rfl 0 b2 rfl _ rfl _ _ rfl (sizeKv hlen.out) (by show (kv l).size = _; rw [kv_size, hlen.out, kv_size]; rfl) (kv_one l) _ rfl ?_; intro w6 st6; clear st3))
  exact ret_row rfl b2 _ _ _ rfl (st6.at (i := 0) rfl) aggKey rfl (sizeKv hlen.out) rfl ⟨rfl, st6.below⟩

theorem RefFlip_calls (l : List Nat) (hk : Key l) (i : Int) (w : World) :
    Calls Try.prog 19 #[.agg (kv l), .int .i64 i] w fun e w' => e = .returned (.agg (kv (flipI l i))) ∧ Below w.heap.size w w' := by
  unfold flipI
  by_cases h : 0 ≤ i ∧ i < 256
  · rw [if_pos h]
    have hb := bitN_lt l i.toNat
    rcases Nat.eq_zero_or_pos (bitN l i.toNat) with h2 | h2
    · exact RefFlip_0 l hk i h.1 h.2 h2 w
    · exact RefFlip_1 l hk i h.1 h.2 (by omega) w
  · rw [if_neg h]; exact RefFlip_out l hk i h w

end Go.Proofs.Ytdkkklhpfflpkaa
