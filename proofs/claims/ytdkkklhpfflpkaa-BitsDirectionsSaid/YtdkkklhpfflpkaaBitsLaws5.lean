/- The walks of BitsDirections and BitsAgree. -/
import Derived.Test.YtdkkklhpfflpkaaBitsLaws4
open Go Go.RowKit
namespace Go.Proofs.Ytdkkklhpfflpkaa

set_option maxHeartbeats 1000000 in
theorem BitsDirections_walk (l : List Nat) (hk : Key l) (n : Int) (_hi : (Lit.int .i64 n).wf = true) (w : World) :
    Calls Try.prog 7 #[.agg (kv l), .int .i64 n] w fun e w' => e = .returned (.bool true) ∧ Below w.heap.size w w' := by
  have hlen : Hid (l.length = 32) := hk.len
  have HK := Lib.hid hk
  have HA := aliveH
  have H1 : Hid (∀ wx : World, Calls Try.prog 26 #[.agg (kv l), .int .i64 n] wx fun e w' => ∃ g, e = .returned (.slice (some ⟨g, 0, none⟩) (clampN n) (clampN n)) ∧ wx.heap.size ≤ g ∧ w'.heap[g]? = some (.cells (iv (dirL l (clampN n))) 3 (0, 0)) ∧ Below wx.heap.size wx w') := fun wx =>
    (Directions_calls l hk n wx).mono fun e w' ⟨g, he, h⟩ => ⟨g, by rw [he, show (dirL l (clampN n)).length = clampN n from dirR_len _ _ _], h⟩
  have hc := clamp_walk n
  have hc8 : clampN n ≤ 256 := by unfold clampN; omega
  clear hk _hi
  have st := St.init w
  go_enter Try.func7, Try.ntmps7
  go_wp2_with (first | (refine wpList_boxA (by assumption) rfl 23 _ rfl _ rfl ?_; intro b1 w1 st1; clear st) | (refine wpList_loadR rfl 23 _ rfl b1 rfl _ aggKey rfl _ _ (St.at (by assumption) (i := 0) rfl) (sizeKv hlen.out) ?_) | (go_at_call 26; refine (H1.out _).mono ?_; rintro e w2 ⟨g, rfl, hgs, hrow, hbel⟩; have st2 := st1.callNew hbel hgs hrow; clear st1 hgs hrow hbel))
  clear hc
  go_loopw [19] (fun i wr => ∃ k : Int, 0 ≤ k ∧ k ≤ (clampN n : Int) ∧ i = .int .i64 k ∧ St w.heap.size w [(g, iv (dirL l (clampN n)), 3), (b1, kv l, 23)] wr) (fun i _ => ((clampN n : Int) - intOf i).toNat)
  case atStart => exact ⟨0, by omega, by omega, rfl, st2⟩
  case round =>
    obtain ⟨k, k0, k1, rfl, st3⟩ := hrel
    clear st2
    by_cases hlt : k < (clampN n : Int)
    · have hcell : wr.cell? ⟨g, k.toNat, none⟩ = some (.int .i64 (bitN l k.toNat : Nat)) := by
        rw [st3.cell (i := 0) rfl, iv_get _ _ (by rw [show (dirL l (clampN n)).length = clampN n from dirR_len _ _ _]; omega)]
        unfold dirL
        rw [dirR_get l _ _ _ (by omega), if_pos (by omega)]
      have Hb : Hid (∀ wx : World, Calls Try.prog 17 #[.agg (kv l), .int .i64 k] wx fun e w' => e = .returned (.int .i64 (bitN l k.toNat : Nat)) ∧ Below wx.heap.size wx w') := fun wx => RefBit_in l HK.out k k0 (by omega) wx
      generalize ((bitN l k.toNat : Nat) : Int) = X at *
      go_wp2_with (first | (refine wpList_loadR rfl 23 _ rfl b1 rfl _ aggKey rfl _ _ (St.at (by assumption) (i := 1) rfl) (sizeKv hlen.out) ?_) | (go_at_call 17; refine (Hb.out _).mono ?_; rintro e w4 ⟨rfl, hbel⟩; have st4 := st3.call hbel; clear st3 hbel))
      go_roundw
      case rel => exact ⟨k + 1, by omega, by omega, rfl, st4⟩
      case measure => simp [intOf]; omega
    · go_wp2_with (go_at_call 15; refine (HA.out _).mono ?_; rintro e w4 ⟨rfl, hbel⟩; have st4 := st3.call hbel; clear st3 hbel)
      go_ret
      exact ⟨rfl, st4.below⟩

/-- Of three common lengths the two smaller ones are equal. -/
theorem com_three (a b c : List Nat) : (comN a b = comN b c ∧ comN a b ≤ comN a c) ∨ (comN b c = comN a c ∧ comN b c ≤ comN a b) ∨ (comN a b = comN a c ∧ comN a b ≤ comN b c) := by
  have l1 := comN_le a b
  have l2 := comN_le b c
  have l3 := comN_le a c
  have s1 := comN_same a b
  have s2 := comN_same b c
  have s3 := comN_same a c
  have d1 := comN_diff a b
  have d2 := comN_diff b c
  have d3 := comN_diff a c
  rcases Nat.lt_trichotomy (comN a b) (comN b c) with h | h | h
  · refine .inr (.inr ⟨?_, by omega⟩)
    rcases Nat.lt_trichotomy (comN a b) (comN a c) with h2 | h2 | h2
    · exact absurd ((s3 _ h2).trans (s2 _ h).symm) (d1 (by omega))
    · exact h2
    · exact absurd ((s1 _ h2).trans (s2 _ (by omega))) (d3 (by omega))
  · rcases Nat.lt_or_ge (comN a c) (comN a b) with h2 | h2
    · exact absurd ((s1 _ h2).trans (s2 _ (by omega))) (d3 (by omega))
    · exact .inl ⟨h, h2⟩
  · refine .inr (.inl ⟨?_, by omega⟩)
    rcases Nat.lt_trichotomy (comN b c) (comN a c) with h2 | h2 | h2
    · exact absurd ((s1 _ h).symm.trans (s3 _ h2)) (d2 (by omega))
    · exact h2
    · exact absurd ((s1 _ (by omega)).trans (s2 _ h2)) (d3 (by omega))

set_option maxHeartbeats 1000000 in
theorem BitsAgree_walk (a : List Nat) (ha : Key a) (b : List Nat) (hb : Key b) (c : List Nat) (hc : Key c) (w : World) :
    Calls Try.prog 8 #[.agg (kv a), .agg (kv b), .agg (kv c)] w fun e w' => e = .returned (.bool true) ∧ Below w.heap.size w w' := by
  have hla : Hid (a.length = 32) := ha.len
  have hlb : Hid (b.length = 32) := hb.len
  have hlc : Hid (c.length = 32) := hc.len
  have HA := aliveH
  have H1 := Lib.hid (Common_calls a b ha hb)
  have H2 := Lib.hid (Common_calls b c hb hc)
  have H3 := Lib.hid (Common_calls a c ha hc)
  have h3 := com_three a b c
  have H : Hid ((((comN a b : Nat) : Int) = (comN b c : Nat) ∧ ((comN a b : Nat) : Int) ≤ (comN a c : Nat)) ∨ (((comN b c : Nat) : Int) = (comN a c : Nat) ∧ ((comN b c : Nat) : Int) < (comN a b : Nat)) ∨ (((comN a b : Nat) : Int) = (comN a c : Nat) ∧ ((comN a b : Nat) : Int) ≤ (comN b c : Nat))) := by unfold Hid; omega
  clear ha hb hc h3
  generalize ((comN a b : Nat) : Int) = X at *
  generalize ((comN b c : Nat) : Int) = Y at *
  generalize ((comN a c : Nat) : Int) = Z at *
  have st := St.init w
  go_enter Try.func8, Try.ntmps8
  go_wp2_with (first | (refine wpList_boxA (by assumption) rfl 23 _ rfl _ rfl ?_; intro b1 w1 st1; clear st) | (refine wpList_boxA (by assumption) rfl 23 _ rfl _ rfl ?_; intro b2 w2 st2; clear st1) | (refine wpList_boxA (by assumption) rfl 23 _ rfl _ rfl ?_; intro b3 w3 st3; clear st2))
  refine region_inv 12 st3 mixed (by kernel_rfl) ?_
  intro I hI hI'
  simp only [List.take_succ_cons, List.take_zero, List.drop_succ_cons, List.drop_zero]
  (refine Inv.wpInv_step (fun K hK => ?_); go_simp; refine inv_loadR 23 _ rfl b1 rfl _ aggKey rfl _ _ (fun wx hw => (hI wx hw).at (i := 2) rfl) (sizeKv hla.out) ?_
   refine hK _ ?_; clear hK K)
  (refine Inv.wpInv_step (fun K hK => ?_); go_simp; refine inv_loadR 23 _ rfl b2 rfl _ aggKey rfl _ _ (fun wx hw => (hI wx hw).at (i := 1) rfl) (sizeKv hlb.out) ?_
   refine hK _ ?_; clear hK K)
  (refine Inv.wpInv_step (fun K hK => ?_); go_simp; refine inv_call hI hI' 20 _ ?_ (fun wx stx => H1.out wx) ?_; · (intro wx hw; go_simp)
   refine hK _ ?_; clear hK K)
  (refine Inv.wpInv_step (fun K hK => ?_); go_simp; refine inv_loadR 23 _ rfl b2 rfl _ aggKey rfl _ _ (fun wx hw => (hI wx hw).at (i := 1) rfl) (sizeKv hlb.out) ?_
   refine hK _ ?_; clear hK K)
  (refine Inv.wpInv_step (fun K hK => ?_); go_simp; refine inv_loadR 23 _ rfl b3 rfl _ aggKey rfl _ _ (fun wx hw => (hI wx hw).at (i := 0) rfl) (sizeKv hlc.out) ?_
   refine hK _ ?_; clear hK K)
  (refine Inv.wpInv_step (fun K hK => ?_); go_simp; refine inv_call hI hI' 20 _ ?_ (fun wx stx => H2.out wx) ?_; · (intro wx hw; go_simp)
   refine hK _ ?_; clear hK K)
  (refine Inv.wpInv_step (fun K hK => ?_); go_simp; refine inv_loadR 23 _ rfl b1 rfl _ aggKey rfl _ _ (fun wx hw => (hI wx hw).at (i := 2) rfl) (sizeKv hla.out) ?_
   refine hK _ ?_; clear hK K)
  (refine Inv.wpInv_step (fun K hK => ?_); go_simp; refine inv_loadR 23 _ rfl b3 rfl _ aggKey rfl _ _ (fun wx hw => (hI wx hw).at (i := 0) rfl) (sizeKv hlc.out) ?_
   refine hK _ ?_; clear hK K)
  (refine Inv.wpInv_step (fun K hK => ?_); go_simp; refine inv_call hI hI' 20 _ ?_ (fun wx stx => H3.out wx) ?_; · (intro wx hw; go_simp)
   refine hK _ ?_; clear hK K)
  iterate 3
    (refine Inv.wpInv_step (fun K hK => ?_); go_simp; apply inv_run; · (intro wx hw; go_simp; (try go_ints); (try go_simp); (try (rw [if_pos (by omega)])); (try go_simp); (first | done | rfl))
     refine hK _ ?_; clear hK K)
  refine Inv.wpInv_nil ?_
  intro w6 st6
  clear hI hI' st3
  have i0 : ∀ (x y z : Int) (w : World), (Instr.index 32 (.agg #[.int .i64 x, .int .i64 y, .int .i64 z]) (.int .i64 0)).run Try.prog w = .ok (.int .i64 x) w := fun _ _ _ _ => by kernel_rfl
  have i1 : ∀ (x y z : Int) (w : World), (Instr.index 32 (.agg #[.int .i64 x, .int .i64 y, .int .i64 z]) (.int .i64 1)).run Try.prog w = .ok (.int .i64 y) w := fun _ _ _ _ => by kernel_rfl
  have i2 : ∀ (x y z : Int) (w : World), (Instr.index 32 (.agg #[.int .i64 x, .int .i64 y, .int .i64 z]) (.int .i64 2)).run Try.prog w = .ok (.int .i64 z) w := fun _ _ _ _ => by kernel_rfl
  rcases H.out with ⟨e, h⟩ | ⟨e, h⟩ | ⟨e, h⟩
  all_goals
    subst e
    clear H H1 H2 H3 hla hlb hlc
    go_wp2
    refine wp_loop_rounds 4 ?_
    repeat any_goals (rw [rounds_succ]; go_wp2_with (go_at_call 15; refine (HA.out _).mono ?_; rintro e w7 ⟨rfl, hbel⟩; have st7 := st6.call hbel; clear st6 hbel))
    all_goals
      go_ret
      exact ⟨rfl, st7.below⟩

end Go.Proofs.Ytdkkklhpfflpkaa
