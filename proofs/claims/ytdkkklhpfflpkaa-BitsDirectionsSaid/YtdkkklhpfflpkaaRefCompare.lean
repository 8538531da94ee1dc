/- The contract of the reference's Compare. -/
import Derived.Test.YtdkkklhpfflpkaaCompare
open Go Go.RowKit
namespace Go.Proofs.Ytdkkklhpfflpkaa

set_option maxHeartbeats 1000000 in
theorem RefCompare_calls (a b : List Nat) (ha : Key a) (hb : Key b) (w : World) :
    Calls Try.prog 25 #[.agg (kv a), .agg (kv b)] w fun e w' => e = .returned (.int .i64 (cmpL a b)) ∧ Below w.heap.size w w' := by
  have hlen := Lib.hid ha.len
  have hlenb := Lib.hid hb.len
  clear ha hb
  have st := St.init w
  go_enter Try.func25, Try.ntmps25
  go_wp2_with (first | (refine wpList_boxA (by assumption) rfl 23 _ rfl _ rfl ?_; intro b1 w1 st1; clear st) | (refine wpList_boxA (by assumption) rfl 23 _ rfl _ rfl ?_; intro b2 w2 st2; clear st1))
  go_loopw [5] (fun i wr => ∃ k : Int, 0 ≤ k ∧ k ≤ 32 ∧ i = .int .i64 k ∧ Hid (∀ j < k.toNat, a.getD j 0 = b.getD j 0) ∧ St w.heap.size w [(b2, kv b, 23), (b1, kv a, 23)] wr) (fun i _ => (32 - intOf i).toNat)
  case atStart => exact ⟨0, by omega, by omega, rfl, by intro j hj; simp at hj, st2⟩
  case round =>
    obtain ⟨k, k0, k1, rfl, hp, st3⟩ := hrel
    clear st2
    by_cases hlt : k < 32
    · have hx : (kv a)[k.toNat]? = some (.int .u8 (a.getD k.toNat 0 : Nat)) := kv_get a _ (by rw [hlen.out]; omega)
      have hy : (kv b)[k.toNat]? = some (.int .u8 (b.getD k.toNat 0 : Nat)) := kv_get b _ (by rw [hlenb.out]; omega)
      have Hat : Hid (a.getD k.toNat 0 ≠ b.getD k.toNat 0 → cmpL a b = if a.getD k.toNat 0 < b.getD k.toNat 0 then -1 else 1) :=
        cmpL_at a b k.toNat (by rw [hlen.out, hlenb.out]) (by rw [hlen.out]; omega) (fun j hj => hp.out j hj)
      have Hnx : Hid (a.getD k.toNat 0 = b.getD k.toNat 0 → ∀ j < (k + 1).toNat, a.getD j 0 = b.getD j 0) := fun h j hj => by
        rcases Nat.lt_or_ge j k.toNat with h1 | h1
        · exact hp.out j h1
        · obtain rfl : j = k.toNat := by omega
          exact h
      clear hp
      generalize a.getD k.toNat 0 = x at *
      generalize b.getD k.toNat 0 = y at *
      by_cases h1 : x < y
      · have HC : Hid (cmpL a b = -1) := by unfold Hid; rw [Hat.out (by omega), if_pos h1]
        have h1' : (x : Int) < (y : Int) := by omega
        clear Hat Hnx h1
        generalize (x : Int) = X at *
        generalize (y : Int) = Y at *
        go_wp2
        refine region_inv 7 st3 mixed (by kernel_rfl) ?_
        intro I hI hI'
        have q : ∀ wx, I wx → wx.cell? ⟨b1, k.toNat, none⟩ = some (.int .u8 X) ∧ wx.cell? ⟨b2, k.toNat, none⟩ = some (.int .u8 Y) := fun wx hw => ⟨((hI wx hw).cell (i := 1) rfl _).trans hx, ((hI wx hw).cell (i := 0) rfl _).trans hy⟩
        simp only [List.take_succ_cons, List.take_zero, List.drop_succ_cons, List.drop_zero]
        iterate 7
          (refine Inv.wpInv_step (fun K hK => ?_); go_simp; apply inv_run; · (intro wx hw; have q1 := q wx hw; go_simp; (try go_ints); (try go_simp); (try (rw [if_pos (by omega)])); (try go_simp); (first | done | rfl))
           refine hK _ ?_; clear hK K)
        clear q hI hI' hx hy
        refine Inv.wpInv_nil ?_
        intro w4 st4
        clear st3
        go_wp2
        go_ret
        exact ⟨ret_int HC.out.symm, st4.below⟩
      · by_cases h2 : y < x
        · have HC : Hid (cmpL a b = 1) := by unfold Hid; rw [Hat.out (by omega), if_neg h1]
          have h1' : ¬ (x : Int) < (y : Int) := by omega
          have h2' : (y : Int) < (x : Int) := by omega
          clear Hat Hnx h1 h2
          generalize (x : Int) = X at *
          generalize (y : Int) = Y at *
          go_wp2
          refine region_inv 7 st3 mixed (by kernel_rfl) ?_
          intro I hI hI'
          have q : ∀ wx, I wx → wx.cell? ⟨b1, k.toNat, none⟩ = some (.int .u8 X) ∧ wx.cell? ⟨b2, k.toNat, none⟩ = some (.int .u8 Y) := fun wx hw => ⟨((hI wx hw).cell (i := 1) rfl _).trans hx, ((hI wx hw).cell (i := 0) rfl _).trans hy⟩
          simp only [List.take_succ_cons, List.take_zero, List.drop_succ_cons, List.drop_zero]
          iterate 7
            (refine Inv.wpInv_step (fun K hK => ?_); go_simp; apply inv_run; · (intro wx hw; have q1 := q wx hw; go_simp; (try go_ints); (try go_simp); (try (rw [if_pos (by omega)])); (try go_simp); (first | done | rfl))
             refine hK _ ?_; clear hK K)
          clear q hI hI'
          refine Inv.wpInv_nil ?_
          intro w4 st4
          clear st3
          go_wp2
          refine region_inv 7 st4 mixed (by kernel_rfl) ?_
          intro I hI hI'
          have q : ∀ wx, I wx → wx.cell? ⟨b1, k.toNat, none⟩ = some (.int .u8 X) ∧ wx.cell? ⟨b2, k.toNat, none⟩ = some (.int .u8 Y) := fun wx hw => ⟨((hI wx hw).cell (i := 1) rfl _).trans hx, ((hI wx hw).cell (i := 0) rfl _).trans hy⟩
          simp only [List.take_succ_cons, List.take_zero, List.drop_succ_cons, List.drop_zero]
          iterate 7
            (refine Inv.wpInv_step (fun K hK => ?_); go_simp; apply inv_run; · (intro wx hw; have q1 := q wx hw; go_simp; (try go_ints); (try go_simp); (try (rw [if_pos (by omega)])); (try go_simp); (first | done | rfl))
             refine hK _ ?_; clear hK K)
          clear q hI hI' hx hy
          refine Inv.wpInv_nil ?_
          intro w5 st5
          clear st4
          go_wp2
          go_ret
          exact ⟨ret_int HC.out.symm, st5.below⟩
        · obtain rfl : x = y := by omega
          have HN := Lib.hid (Hnx.out rfl)
          have h1' : ¬ (x : Int) < (x : Int) := by omega
          clear Hat Hnx h1 h2
          generalize (x : Int) = X at *
          go_wp2
          refine region_inv 7 st3 mixed (by kernel_rfl) ?_
          intro I hI hI'
          have q : ∀ wx, I wx → wx.cell? ⟨b1, k.toNat, none⟩ = some (.int .u8 X) ∧ wx.cell? ⟨b2, k.toNat, none⟩ = some (.int .u8 X) := fun wx hw => ⟨((hI wx hw).cell (i := 1) rfl _).trans hx, ((hI wx hw).cell (i := 0) rfl _).trans hy⟩
          simp only [List.take_succ_cons, List.take_zero, List.drop_succ_cons, List.drop_zero]
          iterate 7
            (refine Inv.wpInv_step (fun K hK => ?_); go_simp; apply inv_run; · (intro wx hw; have q1 := q wx hw; go_simp; (try go_ints); (try go_simp); (try (rw [if_pos (by omega)])); (try go_simp); (first | done | rfl))
             refine hK _ ?_; clear hK K)
          clear q hI hI'
          refine Inv.wpInv_nil ?_
          intro w4 st4
          clear st3
          go_wp2
          refine region_inv 7 st4 mixed (by kernel_rfl) ?_
          intro I hI hI'
          have q : ∀ wx, I wx → wx.cell? ⟨b1, k.toNat, none⟩ = some (.int .u8 X) ∧ wx.cell? ⟨b2, k.toNat, none⟩ = some (.int .u8 X) := fun wx hw => ⟨((hI wx hw).cell (i := 1) rfl _).trans hx, ((hI wx hw).cell (i := 0) rfl _).trans hy⟩
          simp only [List.take_succ_cons, List.take_zero, List.drop_succ_cons, List.drop_zero]
          iterate 7
            (refine Inv.wpInv_step (fun K hK => ?_); go_simp; apply inv_run; · (intro wx hw; have q1 := q wx hw; go_simp; (try go_ints); (try go_simp); (try (rw [if_pos (by omega)])); (try go_simp); (first | done | rfl))
             refine hK _ ?_; clear hK K)
          clear q hI hI' hx hy
          refine Inv.wpInv_nil ?_
          intro w5 st5
          clear st4
          go_wp2
          go_roundw
          case rel => exact ⟨k + 1, by omega, by omega, rfl, HN.out, st5⟩
          case measure => simp [intOf]; omega
    · have HC : Hid (cmpL a b = 0) := cmpL_same a b (by rw [hlen.out, hlenb.out]) fun j hj => hp.out j (by rw [hlen.out] at hj; omega)
      clear hp
      go_wp2
      go_ret
      exact ⟨ret_int HC.out.symm, st3.below⟩

end Go.Proofs.Ytdkkklhpfflpkaa
