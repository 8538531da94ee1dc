/- Contracts of the reference of package bitmap: Same; and of List of package bitmap. -/
import Derived.Test.YtdkkklhpfflpkaaLast
open Go Go.RowKit
namespace Go.Proofs.Ytdkkklhpfflpkaa

set_option maxHeartbeats 1000000 in
theorem Same_calls (l m : List Int) (v u : Value) (w : World) (hv : Rd w v l) (hu : Rd w u m) :
    Calls Try.prog 34 #[v, u] w fun e w' => e = .returned (.bool (decide (l = m))) ∧ Below w.heap.size w w' := by
  obtain ⟨a, cap, rfl⟩ : ∃ a cap, v = .slice a l.length cap := by
    rcases hv.2 with ⟨rfl, a, cap, rfl⟩ | ⟨b, off, cap, rfl, _⟩
    · exact ⟨a, cap, rfl⟩
    · exact ⟨_, cap, rfl⟩
  obtain ⟨c, dap, rfl⟩ : ∃ a cap, u = .slice a m.length cap := by
    rcases hu.2 with ⟨rfl, a, cap, rfl⟩ | ⟨b, off, cap, rfl, _⟩
    · exact ⟨a, cap, rfl⟩
    · exact ⟨_, cap, rfl⟩
  have hl := hv.1
  have hm := hu.1
  unfold maxLen at hl hm
  by_cases hlen : l.length = m.length
  · by_cases h0 : l.length = 0
    · have e : Hid (decide (l = m) = true) := by
        have h1 := List.eq_nil_of_length_eq_zero h0
        have h2 := List.eq_nil_of_length_eq_zero (by omega : m.length = 0)
        unfold Hid
        rw [h1, h2]; rfl
      rw [← hlen]
      have h0' : decide (0 < l.length) = false := by rw [h0]; rfl
      clear hv hu hlen h0 hm
      go_enter Try.func34, Try.ntmps34
      go_wp2
      refine wp_loop_rounds 1 ?_
      rw [rounds_succ]
      go_wp2
      go_ret
      exact ⟨congrArg (fun x => Ending.returned (Value.bool x)) e.out.symm, Below.refl _ _⟩
    · rcases hv.2 with ⟨rfl, _⟩ | ⟨b, off, cap', hva, hca⟩
      · exact absurd rfl h0
      rcases hu.2 with ⟨rfl, _⟩ | ⟨b', off', cap'', hua, hcb⟩
      · exact absurd hlen h0
      injection hva with hva _ _
      injection hua with hua _ _
      subst hva
      subst hua
      have Ha : Hid (∀ w' : World, Below w.heap.size w w' → ∀ k : Int, 0 ≤ k → k < l.length → w'.cell? ⟨b, off + k.toNat, none⟩ = some (.int .i64 (l.getD k.toNat 0)) ∧ w'.cell? ⟨b', off' + k.toNat, none⟩ = some (.int .i64 (m.getD k.toNat 0))) := fun w' hb k k0 k1 => by
        rw [hb.cell (block_lt_cell (hca k.toNat (by omega))), hb.cell (block_lt_cell (hcb k.toNat (by omega)))]
        exact ⟨hca k.toNat (by omega), hcb k.toNat (by omega)⟩
      have Hlen := Lib.hid hlen
      rw [← hlen]
      clear hv hu hlen hca hcb hm
      have st := St.init w
      go_enter Try.func34, Try.ntmps34
      go_wp2
      go_loopw [5] (fun i wr => ∃ k : Int, 0 ≤ k ∧ k ≤ (l.length : Int) ∧ i = .int .i64 k ∧ Hid (∀ j < k.toNat, l.getD j 0 = m.getD j 0) ∧ St w.heap.size w [] wr) (fun i _ => ((l.length : Int) - intOf i).toNat)
      case atStart => exact ⟨0, by omega, by omega, rfl, by intro j hj; simp at hj, st⟩
      case round =>
        obtain ⟨k, k0, k1, rfl, hp, st3⟩ := hrel
        clear st
        by_cases hlt : k < (l.length : Int)
        · have Hc : Hid (∀ wx : World, Below w.heap.size w wx → wx.cell? ⟨b, off + k.toNat, none⟩ = some (.int .i64 (l.getD k.toNat 0)) ∧ wx.cell? ⟨b', off' + k.toNat, none⟩ = some (.int .i64 (m.getD k.toNat 0))) := fun wx hb => Ha.out wx hb k k0 hlt
          by_cases he : l.getD k.toNat 0 = m.getD k.toNat 0
          · have Hn : Hid (∀ j < (k + 1).toNat, l.getD j 0 = m.getD j 0) := fun j hj => by
              rcases Nat.lt_or_ge j k.toNat with h1 | h1
              · exact hp.out j h1
              · obtain rfl : j = k.toNat := by omega
                exact he
            rw [← he] at Hc
            clear hp he
            generalize l.getD k.toNat 0 = X at *
            go_wp2
            refine region_inv 9 st3 mixed (by kernel_rfl) ?_
            intro I hI hI'
            have q : ∀ wx, I wx → wx.cell? ⟨b, off + k.toNat, none⟩ = some (.int .i64 X) ∧ wx.cell? ⟨b', off' + k.toNat, none⟩ = some (.int .i64 X) := fun wx hw => Hc.out wx (hI wx hw).below
            simp only [List.take_succ_cons, List.take_zero, List.drop_succ_cons, List.drop_zero]
            iterate 9
              (refine Inv.wpInv_step (fun K hK => ?_); go_simp; apply inv_run; · (intro wx hw; have q1 := q wx hw; go_simp; (try go_ints); (try go_simp); (try (rw [if_pos (by omega)])); (try go_simp); (first | done | rfl))
               refine hK _ ?_; clear hK K)
            clear q hI hI'
            refine Inv.wpInv_nil ?_
            intro w4 st4
            clear st3
            go_wp2
            go_roundw
            case rel => exact ⟨k + 1, by omega, by omega, rfl, Hn.out, st4⟩
            case measure => simp [intOf]; omega
          · have e : Hid (decide (l = m) = false) := by
              unfold Hid
              rw [decide_eq_false_iff_not]
              intro h
              exact he (by rw [h])
            have hne : (l.getD k.toNat 0 != m.getD k.toNat 0) = true := by rw [bne_iff_ne]; exact he
            clear hp he
            generalize l.getD k.toNat 0 = X at *
            generalize m.getD k.toNat 0 = Y at *
            go_wp2
            refine region_inv 9 st3 mixed (by kernel_rfl) ?_
            intro I hI hI'
            have q : ∀ wx, I wx → wx.cell? ⟨b, off + k.toNat, none⟩ = some (.int .i64 X) ∧ wx.cell? ⟨b', off' + k.toNat, none⟩ = some (.int .i64 Y) := fun wx hw => Hc.out wx (hI wx hw).below
            simp only [List.take_succ_cons, List.take_zero, List.drop_succ_cons, List.drop_zero]
            iterate 9
              (refine Inv.wpInv_step (fun K hK => ?_); go_simp; apply inv_run; · (intro wx hw; have q1 := q wx hw; go_simp; (try go_ints); (try go_simp); (try (rw [if_pos (by omega)])); (try go_simp); (first | done | rfl))
               refine hK _ ?_; clear hK K)
            clear q hI hI'
            refine Inv.wpInv_nil ?_
            intro w4 st4
            clear st3
            go_wp2
            go_ret
            exact ⟨congrArg (fun x => Ending.returned (Value.bool x)) e.out.symm, st4.below⟩
        · have e : Hid (decide (l = m) = true) := by
            unfold Hid
            rw [decide_eq_true_eq]
            exact getD_extI Hlen.out fun j hj => hp.out j (by omega)
          clear hp
          go_wp2
          go_ret
          exact ⟨congrArg (fun x => Ending.returned (Value.bool x)) e.out.symm, st3.below⟩
  · have e : Hid (decide (l = m) = false) := by
      unfold Hid
      rw [decide_eq_false_iff_not]
      intro h
      exact hlen (by rw [h])
    have hne : ((l.length : Int) != (m.length : Int)) = true := by rw [bne_iff_ne]; omega
    clear hv hu hlen
    go_enter Try.func34, Try.ntmps34
    go_wp2
    go_ret
    exact ⟨congrArg (fun x => Ending.returned (Value.bool x)) e.out.symm, Below.refl _ _⟩

end Go.Proofs.Ytdkkklhpfflpkaa
