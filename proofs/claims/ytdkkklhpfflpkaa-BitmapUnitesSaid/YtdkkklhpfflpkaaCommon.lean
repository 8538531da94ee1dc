/- Contracts of Common of package bits and of its reference. -/
import Derived.Test.YtdkkklhpfflpkaaPlain
import Derived.Test.YtdkkklhpfflpkaaShelf
open Go Go.RowKit
namespace Go.Proofs.Ytdkkklhpfflpkaa

theorem guardKey : Try.prog.eqGuardType Try.prog.depth 23 = false := by kernel_rfl
theorem byteT : Try.prog.underlying 5 = some (.int .u8) := by kernel_rfl

theorem eqlKey (a b : List Nat) (la : a.length = 32) (lb : b.length = 32) (w : World) :
    (Op.equalIn 10000 23 (.agg (kv a)) (.agg (kv b))).run Try.prog w = .ok (decide (a = b)) w :=
  run_equalIn_bytes w 9998 23 5 32 aggKey byteT sizeByte a b la lb

theorem Common_same (a : List Nat) (ha : Key a) (w : World) :
    Calls Try.prog 20 #[.agg (kv a), .agg (kv a)] w fun e w' => e = .returned (.int .i64 256) ∧ Below w.heap.size w w' := by
  have hq : ∀ w, (Op.equalIn 10000 23 (.agg (kv a)) (.agg (kv a))).run Try.prog w = .ok true w := fun w => by rw [eqlKey a a ha.len ha.len w]; simp
  have hg := guardKey
  have hlen := Lib.hid ha.len
  clear ha
  have st := St.init w
  go_enter Try.func20, Try.ntmps20
  go_wp2_with (first | (refine wpList_boxA (by assumption) rfl 23 _ rfl _ rfl ?_; intro b1 w1 st1; clear st) | (refine wpList_boxA (by assumption) rfl 23 _ rfl _ rfl ?_; intro b2 w2 st2; clear st1) | (refine wpList_loadR rfl 23 _ rfl b1 rfl _ aggKey rfl _ _ (st2.at (i := 1) rfl) (sizeKv hlen.out) ?_) | (refine wpList_loadR rfl 23 _ rfl b2 rfl _ aggKey rfl _ _ (st2.at (i := 0) rfl) (sizeKv hlen.out) ?_))
  go_ret
  exact ⟨rfl, st2.below⟩

set_option maxHeartbeats 1000000 in
theorem Common_diff (a b : List Nat) (ha : Key a) (hb : Key b) (hab : a ≠ b) (w : World) :
    Calls Try.prog 20 #[.agg (kv a), .agg (kv b)] w fun e w' => e = .returned (.int .i64 (comN a b : Nat)) ∧ Below w.heap.size w w' := by
  have hq : ∀ w, (Op.equalIn 10000 23 (.agg (kv a)) (.agg (kv b))).run Try.prog w = .ok false w := fun w => by rw [eqlKey a b ha.len hb.len w]; simp [hab]
  have hg := guardKey
  have hlen := Lib.hid ha.len
  have hlenb := Lib.hid hb.len
  have HA := Lib.hid ha
  have HB := Lib.hid hb
  have HAB := Lib.hid hab
  clear ha hb hab
  have st := St.init w
  go_enter Try.func20, Try.ntmps20
  go_wp2_with (first | (refine wpList_boxA (by assumption) rfl 23 _ rfl _ rfl ?_; intro b1 w1 st1; clear st) | (refine wpList_boxA (by assumption) rfl 23 _ rfl _ rfl ?_; intro b2 w2 st2; clear st1) | (refine wpList_loadR rfl 23 _ rfl b1 rfl _ aggKey rfl _ _ (st2.at (i := 1) rfl) (sizeKv hlen.out) ?_) | (refine wpList_loadR rfl 23 _ rfl b2 rfl _ aggKey rfl _ _ (st2.at (i := 0) rfl) (sizeKv hlenb.out) ?_))
  clear hq hg
  go_loopw [10] (fun i wr => ∃ k : Int, 0 ≤ k ∧ k ≤ 32 ∧ i = .int .i64 k ∧ Hid (∀ j < k.toNat, a.getD j 0 = b.getD j 0) ∧ St w.heap.size w [(b2, kv b, 23), (b1, kv a, 23)] wr) (fun i _ => (32 - intOf i).toNat)
  case atStart => exact ⟨0, by omega, by omega, rfl, by intro j hj; simp at hj, st2⟩
  case round =>
    obtain ⟨k, k0, k1, rfl, hp, st3⟩ := hrel
    clear st2
    have hk32 : k < 32 := by
      by_cases h : k < 32
      · exact h
      · exact absurd (getD_ext (by rw [hlen.out, hlenb.out]) fun j hj => hp.out j (by rw [hlen.out] at hj; omega)) HAB.out
    have hx : (kv a)[k.toNat]? = some (.int .u8 (a.getD k.toNat 0 : Nat)) := kv_get a _ (by rw [hlen.out]; omega)
    have hy : (kv b)[k.toNat]? = some (.int .u8 (b.getD k.toNat 0 : Nat)) := kv_get b _ (by rw [hlenb.out]; omega)
    have hca := HA.out.get k.toNat
    have hcb := HB.out.get k.toNat
    have hxor := xor_u8 _ _ hca hcb
    have hdlt : a.getD k.toNat 0 ^^^ b.getD k.toNat 0 < 256 := Nat.xor_lt_two_pow (n := 8) hca hcb
    have Hcom : Hid (a.getD k.toNat 0 ^^^ b.getD k.toNat 0 ≠ 0 → comN a b = 8 * k.toNat + (8 - Lib.bitLen (a.getD k.toNat 0 ^^^ b.getD k.toNat 0))) :=
      fun h => com_at HA.out HB.out k.toNat (by omega) (fun j hj => hp.out j hj) h
    have Hz : Hid (a.getD k.toNat 0 ^^^ b.getD k.toNat 0 = 0 → ∀ j < (k + 1).toNat, a.getD j 0 = b.getD j 0) := fun h j hj => by
      rcases Nat.lt_or_ge j k.toNat with h1 | h1
      · exact hp.out j h1
      · obtain rfl : j = k.toNat := by omega
        exact xor_zero h
    have hlz : ∀ wx : World, Calls Try.prog 39 #[.int .u8 ((a.getD k.toNat 0 ^^^ b.getD k.toNat 0 : Nat) : Int)] wx fun e w' => e = .returned (.int .i64 (8 - (Lib.bitLen (a.getD k.toNat 0 ^^^ b.getD k.toNat 0) : Int))) ∧ w' = wx := fun wx => by
      have := Try.bits_LeadingZeros8 ((a.getD k.toNat 0 ^^^ b.getD k.toNat 0 : Nat) : Int) wx (by omega) (by omega)
      simpa using this
    have hz8 : a.getD k.toNat 0 ^^^ b.getD k.toNat 0 ≠ 0 → Lib.bitLen (a.getD k.toNat 0 ^^^ b.getD k.toNat 0) ≤ 8 := fun h => (lead_bits _ hdlt h).1
    have Hlz := Lib.hid hlz
    clear hlz hp hca hcb
    generalize a.getD k.toNat 0 = x at *
    generalize b.getD k.toNat 0 = y at *
    generalize x ^^^ y = d at *
    by_cases hd0 : d = 0
    · subst hd0
      have hz := Hz.out rfl
      have HZ := Lib.hid hz
      clear Hz hz Hcom Hlz hz8 hdlt
      generalize (x : Int) = X at *
      generalize (y : Int) = Y at *
      go_wp2
      refine region_inv 8 st3 mixed (by kernel_rfl) ?_
      intro I hI hI'
      have q : ∀ wx, I wx → wx.cell? ⟨b1, k.toNat, none⟩ = some (.int .u8 X) ∧ wx.cell? ⟨b2, k.toNat, none⟩ = some (.int .u8 Y) := fun wx hw => ⟨((hI wx hw).cell (i := 1) rfl _).trans hx, ((hI wx hw).cell (i := 0) rfl _).trans hy⟩
      simp only [List.take_succ_cons, List.take_zero, List.drop_succ_cons, List.drop_zero]
      iterate 8
        (refine Inv.wpInv_step (fun K hK => ?_); go_simp; apply inv_run; · (intro wx hw; have q1 := q wx hw; go_simp; (try go_ints); (try go_simp); (try (rw [if_pos (by omega)])); (try go_simp); (first | done | rfl))
         refine hK _ ?_; clear hK K)
      clear q hI hI'
      refine Inv.wpInv_nil ?_
      intro w4 st4
      clear st3
      go_wp2
      go_roundw
      case rel => exact ⟨k + 1, by omega, by omega, rfl, HZ.out, st4⟩
      case measure => simp [intOf]; omega
    · have hc := Hcom.out hd0
      have HC := Lib.hid hc
      have hz9 := hz8 hd0
      have hne : ((d : Int) != 0) = true := by rw [bne_iff_ne]; omega
      clear Hz hc Hcom hz8 hdlt hd0
      generalize Lib.bitLen d = z at *
      have HCi : Hid ((comN a b : Int) = 8 * k + (8 - (z : Int))) := by unfold Hid; rw [HC.out]; omega
      have hZ0 : (0 : Int) ≤ (z : Int) := by omega
      have hZ8 : (z : Int) ≤ 8 := by omega
      clear HC hz9
      generalize (x : Int) = X at *
      generalize (y : Int) = Y at *
      generalize (z : Int) = Z at *
      generalize (d : Int) = D at *
      go_wp2
      refine region_inv 8 st3 mixed (by kernel_rfl) ?_
      intro I hI hI'
      have q : ∀ wx, I wx → wx.cell? ⟨b1, k.toNat, none⟩ = some (.int .u8 X) ∧ wx.cell? ⟨b2, k.toNat, none⟩ = some (.int .u8 Y) := fun wx hw => ⟨((hI wx hw).cell (i := 1) rfl _).trans hx, ((hI wx hw).cell (i := 0) rfl _).trans hy⟩
      simp only [List.take_succ_cons, List.take_zero, List.drop_succ_cons, List.drop_zero]
      iterate 8
        (refine Inv.wpInv_step (fun K hK => ?_); go_simp; apply inv_run; · (intro wx hw; have q1 := q wx hw; go_simp; (try go_ints); (try go_simp); (try (rw [if_pos (by omega)])); (try go_simp); (first | done | rfl))
         refine hK _ ?_; clear hK K)
      clear q hI hI' hx hy
      refine Inv.wpInv_nil ?_
      intro w4 st4
      clear st3
      go_wp2_with (go_at_call 39; refine (Hlz.out _).mono ?_; rintro e w5 ⟨rfl, rfl⟩)
      go_ret
      exact ⟨ret_int HCi.out.symm, st4.below⟩

theorem Common_calls (a b : List Nat) (ha : Key a) (hb : Key b) (w : World) :
    Calls Try.prog 20 #[.agg (kv a), .agg (kv b)] w fun e w' => e = .returned (.int .i64 (comN a b : Nat)) ∧ Below w.heap.size w w' := by
  by_cases h : a = b
  · subst h
    rw [(comN_256 ha hb).2 rfl]
    exact Common_same a ha w
  · exact Common_diff a b ha hb h w

/-! the reference's Common -/
theorem bitI_nat (l : List Nat) (i : Int) (h0 : 0 ≤ i) (h1 : i < 256) : bitI l i = (bitN l i.toNat : Nat) := by unfold bitI; rw [if_pos ⟨h0, h1⟩]

set_option maxHeartbeats 1000000 in
theorem RefCommon_calls (a b : List Nat) (ha : Key a) (hb : Key b) (w : World) :
    Calls Try.prog 21 #[.agg (kv a), .agg (kv b)] w fun e w' => e = .returned (.int .i64 (comN a b : Nat)) ∧ Below w.heap.size w w' := by
  have hlen := Lib.hid ha.len
  have hlenb := Lib.hid hb.len
  have HA := Lib.hid ha
  have HB := Lib.hid hb
  clear ha hb
  have st := St.init w
  go_enter Try.func21, Try.ntmps21
  go_wp2_with (first | (refine wpList_boxA (by assumption) rfl 23 _ rfl _ rfl ?_; intro b1 w1 st1; clear st) | (refine wpList_boxA (by assumption) rfl 23 _ rfl _ rfl ?_; intro b2 w2 st2; clear st1))
  go_loopw [5] (fun i wr => ∃ k : Int, 0 ≤ k ∧ k ≤ 256 ∧ i = .int .i64 k ∧ Hid (∀ j < k.toNat, bitN a j = bitN b j) ∧ St w.heap.size w [(b2, kv b, 23), (b1, kv a, 23)] wr) (fun i _ => (256 - intOf i).toNat)
  case atStart => exact ⟨0, by omega, by omega, rfl, by intro j hj; simp at hj, st2⟩
  case round =>
    obtain ⟨k, k0, k1, rfl, hp, st3⟩ := hrel
    clear st2
    by_cases hlt : k < 256
    · have hcA : ∀ wx : World, Calls Try.prog 17 #[.agg (kv a), .int .i64 k] wx fun e w' => e = .returned (.int .i64 (bitN a k.toNat : Nat)) ∧ Below wx.heap.size wx w' := fun wx => RefBit_in a HA.out k k0 hlt wx
      have hcB : ∀ wx : World, Calls Try.prog 17 #[.agg (kv b), .int .i64 k] wx fun e w' => e = .returned (.int .i64 (bitN b k.toNat : Nat)) ∧ Below wx.heap.size wx w' := fun wx => RefBit_in b HB.out k k0 hlt wx
      have HcA := Lib.hid hcA
      have HcB := Lib.hid hcB
      clear hcA hcB
      by_cases he : bitN a k.toNat = bitN b k.toNat
      · have Hn : Hid (∀ j < (k + 1).toNat, bitN a j = bitN b j) := fun j hj => by
          rcases Nat.lt_or_ge j k.toNat with h1 | h1
          · exact hp.out j h1
          · obtain rfl : j = k.toNat := by omega
            exact he
        rw [← he] at HcB
        clear he hp
        generalize ((bitN a k.toNat : Nat) : Int) = X at *
        go_wp2
        refine region_inv 11 st3 mixed (by kernel_rfl) ?_
        intro I hI hI'
        simp only [List.take_succ_cons, List.take_zero, List.drop_succ_cons, List.drop_zero]
        have hltd : decide (k < 256) = true := by simpa using hlt
        iterate 3
          (refine Inv.wpInv_step (fun K hK => ?_); go_simp; apply inv_run; · (intro wx hw; go_simp; (try go_ints); (try go_simp); (try (rw [if_pos (by omega)])); (try go_simp); (first | done | rfl))
           refine hK _ ?_; clear hK K)
        (refine Inv.wpInv_step (fun K hK => ?_); go_simp; refine inv_loadR 23 _ rfl b1 rfl _ aggKey rfl _ _ (fun wx hw => (hI wx hw).at (i := 1) rfl) (sizeKv hlen.out) ?_
         refine hK _ ?_; clear hK K)
        iterate 1
          (refine Inv.wpInv_step (fun K hK => ?_); go_simp; apply inv_run; · (intro wx hw; go_simp; (try go_ints); (try go_simp); (try (rw [if_pos (by omega)])); (try go_simp); (first | done | rfl))
           refine hK _ ?_; clear hK K)
        (refine Inv.wpInv_step (fun K hK => ?_); go_simp; refine inv_call hI hI' 17 #[.agg (kv a), .int .i64 k] ?_ (fun wx stx => HcA.out wx) ?_; · (intro wx hw; go_simp)
         refine hK _ ?_; clear hK K)
        (refine Inv.wpInv_step (fun K hK => ?_); go_simp; refine inv_loadR 23 _ rfl b2 rfl _ aggKey rfl _ _ (fun wx hw => (hI wx hw).at (i := 0) rfl) (sizeKv hlenb.out) ?_
         refine hK _ ?_; clear hK K)
        iterate 1
          (refine Inv.wpInv_step (fun K hK => ?_); go_simp; apply inv_run; · (intro wx hw; go_simp; (try go_ints); (try go_simp); (try (rw [if_pos (by omega)])); (try go_simp); (first | done | rfl))
           refine hK _ ?_; clear hK K)
        (refine Inv.wpInv_step (fun K hK => ?_); go_simp; refine inv_call hI hI' 17 #[.agg (kv b), .int .i64 k] ?_ (fun wx stx => HcB.out wx) ?_; · (intro wx hw; go_simp)
         refine hK _ ?_; clear hK K)
        iterate 2
          (refine Inv.wpInv_step (fun K hK => ?_); go_simp; apply inv_run; · (intro wx hw; go_simp; (try go_ints); (try go_simp); (try (rw [if_pos (by omega)])); (try go_simp); (first | done | rfl))
           refine hK _ ?_; clear hK K)
        refine Inv.wpInv_nil ?_
        intro w4 st4
        clear st3 hI hI'
        go_wp2
        go_roundw
        case rel => exact ⟨k + 1, by omega, by omega, rfl, Hn.out, st4⟩
        case measure => simp [intOf]; omega
      · have HC : Hid (comN a b = k.toNat) := comN_unique a b _ (by omega) (fun j hj => hp.out j hj) (fun _ => he)
        have hne : (((bitN a k.toNat : Nat) : Int) == ((bitN b k.toNat : Nat) : Int)) = false := by rw [beq_eq_false_iff_ne]; omega
        clear he hp
        generalize ((bitN a k.toNat : Nat) : Int) = X at *
        generalize ((bitN b k.toNat : Nat) : Int) = Y at *
        go_wp2
        refine region_inv 11 st3 mixed (by kernel_rfl) ?_
        intro I hI hI'
        simp only [List.take_succ_cons, List.take_zero, List.drop_succ_cons, List.drop_zero]
        have hltd : decide (k < 256) = true := by simpa using hlt
        iterate 3
          (refine Inv.wpInv_step (fun K hK => ?_); go_simp; apply inv_run; · (intro wx hw; go_simp; (try go_ints); (try go_simp); (try (rw [if_pos (by omega)])); (try go_simp); (first | done | rfl))
           refine hK _ ?_; clear hK K)
        (refine Inv.wpInv_step (fun K hK => ?_); go_simp; refine inv_loadR 23 _ rfl b1 rfl _ aggKey rfl _ _ (fun wx hw => (hI wx hw).at (i := 1) rfl) (sizeKv hlen.out) ?_
         refine hK _ ?_; clear hK K)
        iterate 1
          (refine Inv.wpInv_step (fun K hK => ?_); go_simp; apply inv_run; · (intro wx hw; go_simp; (try go_ints); (try go_simp); (try (rw [if_pos (by omega)])); (try go_simp); (first | done | rfl))
           refine hK _ ?_; clear hK K)
        (refine Inv.wpInv_step (fun K hK => ?_); go_simp; refine inv_call hI hI' 17 #[.agg (kv a), .int .i64 k] ?_ (fun wx stx => HcA.out wx) ?_; · (intro wx hw; go_simp)
         refine hK _ ?_; clear hK K)
        (refine Inv.wpInv_step (fun K hK => ?_); go_simp; refine inv_loadR 23 _ rfl b2 rfl _ aggKey rfl _ _ (fun wx hw => (hI wx hw).at (i := 0) rfl) (sizeKv hlenb.out) ?_
         refine hK _ ?_; clear hK K)
        iterate 1
          (refine Inv.wpInv_step (fun K hK => ?_); go_simp; apply inv_run; · (intro wx hw; go_simp; (try go_ints); (try go_simp); (try (rw [if_pos (by omega)])); (try go_simp); (first | done | rfl))
           refine hK _ ?_; clear hK K)
        (refine Inv.wpInv_step (fun K hK => ?_); go_simp; refine inv_call hI hI' 17 #[.agg (kv b), .int .i64 k] ?_ (fun wx stx => HcB.out wx) ?_; · (intro wx hw; go_simp)
         refine hK _ ?_; clear hK K)
        iterate 2
          (refine Inv.wpInv_step (fun K hK => ?_); go_simp; apply inv_run; · (intro wx hw; go_simp; (try go_ints); (try go_simp); (try (rw [if_pos (by omega)])); (try go_simp); (first | done | rfl))
           refine hK _ ?_; clear hK K)
        refine Inv.wpInv_nil ?_
        intro w4 st4
        clear st3 hI hI'
        go_wp2
        go_ret
        exact ⟨ret_int (by rw [HC.out]; omega), st4.below⟩
    · have HC : Hid (comN a b = 256) := comN_unique a b _ (by omega) (fun j hj => hp.out j (by omega)) (fun h => absurd h (by omega))
      have hltd : decide (k < 256) = false := by simpa using hlt
      have hk : k = 256 := by omega
      subst hk
      clear hp hltd hlt
      go_wp2
      refine region_inv 11 st3 mixed (by kernel_rfl) ?_
      intro I hI hI'
      simp only [List.take_succ_cons, List.take_zero, List.drop_succ_cons, List.drop_zero]
      iterate 3
        (refine Inv.wpInv_step (fun K hK => ?_); go_simp; apply inv_run; · (intro wx hw; go_simp; (try go_ints); (try go_simp); (try (rw [if_pos (by omega)])); (try go_simp); (first | done | rfl))
         refine hK _ ?_; clear hK K)
      iterate 7 (refine Inv.wpInv_step (fun K hK => ?_); go_simp; refine hK _ ?_; clear hK K)
      iterate 1
        (refine Inv.wpInv_step (fun K hK => ?_); go_simp; apply inv_run; · (intro wx hw; go_simp; (try go_ints); (try go_simp); (try (rw [if_pos (by omega)])); (try go_simp); (first | done | rfl))
         refine hK _ ?_; clear hK K)
      refine Inv.wpInv_nil ?_
      intro w4 st4
      clear st3 hI hI'
      go_wp2
      go_ret
      exact ⟨ret_int (by rw [HC.out]; rfl), st4.below⟩

end Go.Proofs.Ytdkkklhpfflpkaa
