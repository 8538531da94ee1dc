/- The walks of BitsCommon, BitsPrefix and BitsCompare. -/
import Derived.Test.YtdkkklhpfflpkaaBitsLaws2
open Go Go.RowKit
namespace Go.Proofs.Ytdkkklhpfflpkaa

theorem aliveH : Hid (∀ wx : World, Calls Try.prog 15 #[] wx fun e w' => e = .returned (.bool true) ∧ Below wx.heap.size wx w') := alive_calls

set_option maxHeartbeats 1000000 in
theorem BitsCommon_same (a : List Nat) (ha : Key a) (w : World) :
    Calls Try.prog 4 #[.agg (kv a), .agg (kv a)] w fun e w' => e = .returned (.bool true) ∧ Below w.heap.size w w' := by
  have hlen : Hid (a.length = 32) := ha.len
  have HA := aliveH
  have h1 := Common_calls a a ha ha
  have h2 := RefCommon_calls a a ha ha
  rw [(comN_256 ha ha).2 rfl] at h1 h2
  have H1 := Lib.hid h1
  have H2 := Lib.hid h2
  have hq := eqlSame a ha
  have hg := guardKey
  clear ha h1 h2
  have st := St.init w
  go_enter Try.func4, Try.ntmps4
  go_wp2_with (first | (refine wpList_boxA (by assumption) rfl 23 _ rfl _ rfl ?_; intro b1 w1 st1; clear st) | (refine wpList_boxA (by assumption) rfl 23 _ rfl _ rfl ?_; intro b2 w2 st2; clear st1) | (refine wpList_loadR rfl 23 _ rfl b1 rfl _ aggKey rfl _ _ (St.at (by assumption) (i := 1) rfl) (sizeKv hlen.out) ?_) | (refine wpList_loadR rfl 23 _ rfl b2 rfl _ aggKey rfl _ _ (St.at (by assumption) (i := 0) rfl) (sizeKv hlen.out) ?_) | (go_at_call 20; refine (H1.out _).mono ?_; rintro e wn ⟨rfl, hbel⟩; have stn := St.call (by assumption) hbel; clear hbel) | (go_at_call 21; refine (H2.out _).mono ?_; rintro e wn ⟨rfl, hbel⟩; have stn := St.call (by assumption) hbel; clear hbel) | (go_at_call 15; refine (HA.out _).mono ?_; rintro e wn ⟨rfl, hbel⟩; have stn := St.call (by assumption) hbel; clear hbel))
  go_ret
  exact ⟨rfl, St.below (by assumption)⟩

theorem bitI_at (l : List Nat) (n : Nat) (h : n < 256) : bitI l (n : Int) = (bitN l n : Nat) := by
  unfold bitI
  rw [if_pos (by omega)]
  rfl

set_option maxHeartbeats 1000000 in
theorem BitsCommon_diff (a b : List Nat) (ha : Key a) (hb : Key b) (hab : a ≠ b) (w : World) :
    Calls Try.prog 4 #[.agg (kv a), .agg (kv b)] w fun e w' => e = .returned (.bool true) ∧ Below w.heap.size w w' := by
  have hlen : Hid (a.length = 32) := ha.len
  have hlenb : Hid (b.length = 32) := hb.len
  have hn : comN a b < 256 := by
    have := comN_le a b
    rcases Nat.lt_or_ge (comN a b) 256 with h | h
    · exact h
    · exact absurd ((comN_256 ha hb).1 (by omega)) hab
  have HA := aliveH
  have h1 := Common_calls a b ha hb
  have h2 := RefCommon_calls a b ha hb
  have h3 := Common_calls b a hb ha
  rw [comN_comm b a] at h3
  have h4 := fun wx => Bit_calls a ha (comN a b : Nat) wx
  have h5 := fun wx => Bit_calls b hb (comN a b : Nat) wx
  rw [bitI_at a _ hn] at h4
  rw [bitI_at b _ hn] at h5
  have h6 := Compare_calls a b ha hb
  rw [cmp_com ha hb hn] at h6
  have hd := comN_diff a b hn
  have b1 := bitN_lt a (comN a b)
  have b2 := bitN_lt b (comN a b)
  have H1 := Lib.hid h1
  have H2 := Lib.hid h2
  have H3 := Lib.hid h3
  have H4 := Lib.hid h4
  have H5 := Lib.hid h5
  have H6 := Lib.hid h6
  have hq : ∀ w, (Op.equalIn 10000 23 (.agg (kv a)) (.agg (kv b))).run Try.prog w = .ok false w := eqlDiff a b ha hb hab
  have hg := guardKey
  have hx : ((bitN a (comN a b) : Nat) : Int) + (bitN b (comN a b) : Nat) = 1 := by omega
  have hx0 : (0 : Int) ≤ (bitN a (comN a b) : Nat) := by omega
  have hx1 : ((bitN a (comN a b) : Nat) : Int) ≤ 1 := by omega
  have hy0 : (0 : Int) ≤ (bitN b (comN a b) : Nat) := by omega
  have hy1 : ((bitN b (comN a b) : Nat) : Int) ≤ 1 := by omega
  have hne : (((comN a b : Nat) : Int) == 256) = false := by rw [beq_eq_false_iff_ne]; omega
  clear ha hb h1 h2 h3 h4 h5 h6 hd b1 b2 hab hn
  generalize ((bitN a (comN a b) : Nat) : Int) = X at *
  generalize ((bitN b (comN a b) : Nat) : Int) = Y at *
  generalize ((comN a b : Nat) : Int) = N at *
  obtain rfl : Y = 1 - X := by omega
  clear hx
  have hsum : X + (1 - X) = 1 := by omega
  have st := St.init w
  go_enter Try.func4, Try.ntmps4
  go_wp2_with (first | (refine wpList_boxA (by assumption) rfl 23 _ rfl _ rfl ?_; intro b1 w1 st1; clear st) | (refine wpList_boxA (by assumption) rfl 23 _ rfl _ rfl ?_; intro b2 w2 st2; clear st1) | (refine wpList_loadR rfl 23 _ rfl b1 rfl _ aggKey rfl _ _ (St.at (by assumption) (i := 1) rfl) (sizeKv hlen.out) ?_) | (refine wpList_loadR rfl 23 _ rfl b2 rfl _ aggKey rfl _ _ (St.at (by assumption) (i := 0) rfl) (sizeKv hlenb.out) ?_) | (go_at_call 21; refine (H2.out _).mono ?_; rintro e wn ⟨rfl, hbel⟩; have stn := St.call (by assumption) hbel; clear hbel) | (go_at_call 20; with_reducible refine (H1.out _).mono ?_; rintro e wn ⟨rfl, hbel⟩; have stn := St.call (by assumption) hbel; clear hbel) | (go_at_call 20; with_reducible refine (H3.out _).mono ?_; rintro e wn ⟨rfl, hbel⟩; have stn := St.call (by assumption) hbel; clear hbel))
  refine region_inv 30 stn mixed (by kernel_rfl) ?_
  intro I hI hI'
  simp only [List.take_succ_cons, List.take_zero, List.drop_succ_cons, List.drop_zero]
  (refine Inv.wpInv_step (fun K hK => ?_); go_simp; refine inv_call hI hI' 15 _ ?_ (fun wx stx => HA.out wx) ?_; · (intro wx hw; go_simp)
   refine hK _ ?_; clear hK K)
  iterate 1
    (refine Inv.wpInv_step (fun K hK => ?_); go_simp; apply inv_run; · (intro wx hw; go_simp; (try go_ints); (try go_simp); (try (rw [if_pos (by omega)])); (try go_simp); (first | done | rfl))
     refine hK _ ?_; clear hK K)
  (refine Inv.wpInv_step (fun K hK => ?_); go_simp; refine inv_loadR 23 _ rfl b1 rfl _ aggKey rfl _ _ (fun wx hw => (hI wx hw).at (i := 1) rfl) (sizeKv hlen.out) ?_
   refine hK _ ?_; clear hK K)
  (refine Inv.wpInv_step (fun K hK => ?_); go_simp; refine inv_loadR 23 _ rfl b2 rfl _ aggKey rfl _ _ (fun wx hw => (hI wx hw).at (i := 0) rfl) (sizeKv hlenb.out) ?_
   refine hK _ ?_; clear hK K)
  iterate 3
    (refine Inv.wpInv_step (fun K hK => ?_); go_simp; apply inv_run; · (intro wx hw; go_simp; (try go_ints); (try go_simp); (try (rw [if_pos (by omega)])); (try go_simp); (first | done | rfl))
     refine hK _ ?_; clear hK K)
  (refine Inv.wpInv_step (fun K hK => ?_); go_simp; refine inv_loadR 23 _ rfl b1 rfl _ aggKey rfl _ _ (fun wx hw => (hI wx hw).at (i := 1) rfl) (sizeKv hlen.out) ?_
   refine hK _ ?_; clear hK K)
  iterate 1
    (refine Inv.wpInv_step (fun K hK => ?_); go_simp; apply inv_run; · (intro wx hw; go_simp; (try go_ints); (try go_simp); (try (rw [if_pos (by omega)])); (try go_simp); (first | done | rfl))
     refine hK _ ?_; clear hK K)
  (refine Inv.wpInv_step (fun K hK => ?_); go_simp; refine inv_call hI hI' 16 _ ?_ (fun wx stx => H4.out wx) ?_; · (intro wx hw; go_simp)
   refine hK _ ?_; clear hK K)
  (refine Inv.wpInv_step (fun K hK => ?_); go_simp; refine inv_loadR 23 _ rfl b2 rfl _ aggKey rfl _ _ (fun wx hw => (hI wx hw).at (i := 0) rfl) (sizeKv hlenb.out) ?_
   refine hK _ ?_; clear hK K)
  iterate 1
    (refine Inv.wpInv_step (fun K hK => ?_); go_simp; apply inv_run; · (intro wx hw; go_simp; (try go_ints); (try go_simp); (try (rw [if_pos (by omega)])); (try go_simp); (first | done | rfl))
     refine hK _ ?_; clear hK K)
  (refine Inv.wpInv_step (fun K hK => ?_); go_simp; refine inv_call hI hI' 16 _ ?_ (fun wx stx => H5.out wx) ?_; · (intro wx hw; go_simp)
   refine hK _ ?_; clear hK K)
  iterate 4
    (refine Inv.wpInv_step (fun K hK => ?_); go_simp; apply inv_run; · (intro wx hw; go_simp; (try go_ints); (try go_simp); (try (rw [if_pos (by omega)])); (try go_simp); (first | done | rfl))
     refine hK _ ?_; clear hK K)
  (refine Inv.wpInv_step (fun K hK => ?_); go_simp; refine inv_loadR 23 _ rfl b1 rfl _ aggKey rfl _ _ (fun wx hw => (hI wx hw).at (i := 1) rfl) (sizeKv hlen.out) ?_
   refine hK _ ?_; clear hK K)
  (refine Inv.wpInv_step (fun K hK => ?_); go_simp; refine inv_loadR 23 _ rfl b2 rfl _ aggKey rfl _ _ (fun wx hw => (hI wx hw).at (i := 0) rfl) (sizeKv hlenb.out) ?_
   refine hK _ ?_; clear hK K)
  (refine Inv.wpInv_step (fun K hK => ?_); go_simp; refine inv_call hI hI' 22 _ ?_ (fun wx stx => H6.out wx) ?_; · (intro wx hw; go_simp)
   refine hK _ ?_; clear hK K)
  (refine Inv.wpInv_step (fun K hK => ?_); go_simp; refine inv_loadR 23 _ rfl b1 rfl _ aggKey rfl _ _ (fun wx hw => (hI wx hw).at (i := 1) rfl) (sizeKv hlen.out) ?_
   refine hK _ ?_; clear hK K)
  iterate 1
    (refine Inv.wpInv_step (fun K hK => ?_); go_simp; apply inv_run; · (intro wx hw; go_simp; (try go_ints); (try go_simp); (try (rw [if_pos (by omega)])); (try go_simp); (first | done | rfl))
     refine hK _ ?_; clear hK K)
  (refine Inv.wpInv_step (fun K hK => ?_); go_simp; refine inv_call hI hI' 16 _ ?_ (fun wx stx => H4.out wx) ?_; · (intro wx hw; go_simp)
   refine hK _ ?_; clear hK K)
  (refine Inv.wpInv_step (fun K hK => ?_); go_simp; refine inv_loadR 23 _ rfl b2 rfl _ aggKey rfl _ _ (fun wx hw => (hI wx hw).at (i := 0) rfl) (sizeKv hlenb.out) ?_
   refine hK _ ?_; clear hK K)
  iterate 1
    (refine Inv.wpInv_step (fun K hK => ?_); go_simp; apply inv_run; · (intro wx hw; go_simp; (try go_ints); (try go_simp); (try (rw [if_pos (by omega)])); (try go_simp); (first | done | rfl))
     refine hK _ ?_; clear hK K)
  (refine Inv.wpInv_step (fun K hK => ?_); go_simp; refine inv_call hI hI' 16 _ ?_ (fun wx stx => H5.out wx) ?_; · (intro wx hw; go_simp)
   refine hK _ ?_; clear hK K)
  iterate 4
    (refine Inv.wpInv_step (fun K hK => ?_); go_simp; apply inv_run; · (intro wx hw; go_simp; (try go_ints); (try go_simp); (try (rw [if_pos (by omega)])); (try go_simp); (first | done | rfl))
     refine hK _ ?_; clear hK K)
  refine Inv.wpInv_nil ?_
  intro w6 st6
  clear hI hI'
  go_wp2
  go_ret
  exact ⟨rfl, st6.below⟩

theorem BitsCommon_walk (a : List Nat) (ha : Key a) (b : List Nat) (hb : Key b) (w : World) :
    Calls Try.prog 4 #[.agg (kv a), .agg (kv b)] w fun e w' => e = .returned (.bool true) ∧ Below w.heap.size w w' := by
  by_cases h : a = b
  · subst h; exact BitsCommon_same a ha w
  · exact BitsCommon_diff a b ha hb h w

end Go.Proofs.Ytdkkklhpfflpkaa
