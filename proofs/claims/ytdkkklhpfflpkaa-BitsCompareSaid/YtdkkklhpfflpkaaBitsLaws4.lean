/- The walks of BitsPrefix and BitsCompare. -/
import Derived.Test.YtdkkklhpfflpkaaBitsLaws3
import Derived.Test.YtdkkklhpfflpkaaOpen
open Go Go.RowKit
namespace Go.Proofs.Ytdkkklhpfflpkaa

theorem comN_ge (a b : List Nat) (c : Nat) (hc : c ≤ 256) (h : ∀ j < c, bitN a j = bitN b j) : c ≤ comN a b := by
  rcases Nat.lt_or_ge (comN a b) c with h1 | h1
  · exact absurd (h _ h1) (comN_diff a b (by omega))
  · exact h1

theorem preC_com {l : List Nat} (hk : Key l) (c : Nat) (hc : c ≤ 256) : c ≤ comN (preC l c) l :=
  comN_ge _ _ c hc fun j hj => by rw [preC_bit hk c j (by omega), if_pos hj]

theorem preC_pre {l : List Nat} (hk : Key l) (c : Nat) : preC (preC l c) c = preC l c :=
  key_ext ((hk.pre c).pre c) (hk.pre c) fun j hj => by
    rw [preC_bit (hk.pre c) c j hj, preC_bit hk c j hj]
    split <;> rfl

theorem cmpL_bd : ∀ (a b : List Nat), -1 ≤ cmpL a b ∧ cmpL a b ≤ 1
  | [], _ => by simp [cmpL]
  | _ :: _, [] => by simp [cmpL]
  | x :: a, y :: b => by
    simp only [cmpL]
    have := cmpL_bd a b
    split
    · omega
    · split <;> omega

theorem int_bounds {i : Int} (h : (Lit.int .i64 i).wf = true) : -9223372036854775808 ≤ i ∧ i ≤ 9223372036854775807 := bounds_i64 h

set_option maxHeartbeats 1000000 in
theorem BitsPrefix_walk (l : List Nat) (hk : Key l) (n : Int) (hi : (Lit.int .i64 n).wf = true) (w : World) :
    Calls Try.prog 5 #[.agg (kv l), .int .i64 n] w fun e w' => e = .returned (.bool true) ∧ Below w.heap.size w w' := by
  obtain ⟨n0, n1⟩ := int_bounds hi
  have hlen : Hid (l.length = 32) := hk.len
  have hlen2 : Hid ((preC l (clampN n)).length = 32) := (hk.pre _).len
  have HA := aliveH
  have H1 := Lib.hid (Prefix_calls l hk n n0 n1)
  have H2 := Lib.hid (RefPrefix_calls l hk n n1)
  have H3 := Lib.hid (Common_calls (preC l (clampN n)) l (hk.pre _) hk)
  have h4 := Prefix_calls (preC l (clampN n)) (hk.pre _) n n0 n1
  rw [preC_pre hk] at h4
  have H4 := Lib.hid h4
  have hq := eqlSame (preC l (clampN n)) (hk.pre _)
  have hg := guardKey
  have hc := clamp_walk n
  have hge : (clampN n : Int) ≤ (comN (preC l (clampN n)) l : Nat) := by
    have := preC_com hk (clampN n) (by unfold clampN; omega)
    omega
  clear hk h4 hi n0 n1
  generalize preC l (clampN n) = F at *
  generalize ((comN F l : Nat) : Int) = C at *
  generalize ((clampN n : Nat) : Int) = M at *
  have st := St.init w
  go_enter Try.func5, Try.ntmps5
  go_wp2_with (first | (refine wpList_boxA (by assumption) rfl 23 _ rfl _ rfl ?_; intro b1 w1 st1; clear st) | (refine wpList_newA (by assumption) rfl 23 rfl _ zeroKey ?_; intro b2 w2 st2) | (refine wpList_loadR rfl 23 _ rfl b1 rfl _ aggKey rfl _ _ (St.at (by assumption) (i := 0) rfl) (sizeKv hlen.out) ?_) | (go_at_call 23; refine (H1.out _).mono ?_; rintro e wn ⟨rfl, hbel⟩; have stn := St.call (by assumption) hbel; clear hbel) | (refine wpList_storeR st2 rfl 23 _ _ rfl 0 b2 rfl _ rfl _ _ rfl (sizeKv hlen2.out) (by show (kv F).size = _; rw [kv_size, hlen2.out, kv_size]; rfl) (kv_one _) _ rfl ?_; intro w3 st3))
  simp only [List.set_cons_zero] at st3
  change St _ _ [(b2, kv F, 23), (b1, kv l, 23)] _ at st3
  refine region_inv 25 st3 mixed (by kernel_rfl) ?_
  intro I hI hI'
  simp only [List.take_succ_cons, List.take_zero, List.drop_succ_cons, List.drop_zero]
  (refine Inv.wpInv_step (fun K hK => ?_); go_simp; refine inv_call hI hI' 15 _ ?_ (fun wx stx => HA.out wx) ?_; · (intro wx hw; go_simp)
   refine hK _ ?_; clear hK K)
  iterate 1
    (refine Inv.wpInv_step (fun K hK => ?_); go_simp; apply inv_run; · (intro wx hw; go_simp; (try go_ints); (try go_simp); (try (rw [if_pos (by omega)])); (try go_simp); (first | done | rfl))
     refine hK _ ?_; clear hK K)
  (refine Inv.wpInv_step (fun K hK => ?_); go_simp; refine inv_loadR 23 _ rfl b2 rfl _ aggKey rfl _ _ (fun wx hw => (hI wx hw).at (i := 0) rfl) (sizeKv hlen2.out) ?_
   refine hK _ ?_; clear hK K)
  (refine Inv.wpInv_step (fun K hK => ?_); go_simp; refine inv_loadR 23 _ rfl b1 rfl _ aggKey rfl _ _ (fun wx hw => (hI wx hw).at (i := 1) rfl) (sizeKv hlen.out) ?_
   refine hK _ ?_; clear hK K)
  iterate 1
    (refine Inv.wpInv_step (fun K hK => ?_); go_simp; apply inv_run; · (intro wx hw; go_simp; (try go_ints); (try go_simp); (try (rw [if_pos (by omega)])); (try go_simp); (first | done | rfl))
     refine hK _ ?_; clear hK K)
  (refine Inv.wpInv_step (fun K hK => ?_); go_simp; refine inv_call hI hI' 24 _ ?_ (fun wx stx => H2.out wx) ?_; · (intro wx hw; go_simp)
   refine hK _ ?_; clear hK K)
  iterate 3
    (refine Inv.wpInv_step (fun K hK => ?_); go_simp; apply inv_run; · (intro wx hw; go_simp; (try go_ints); (try go_simp); (try (rw [if_pos (by omega)])); (try go_simp); (first | done | rfl))
     refine hK _ ?_; clear hK K)
  (refine Inv.wpInv_step (fun K hK => ?_); go_simp; refine inv_loadR 23 _ rfl b2 rfl _ aggKey rfl _ _ (fun wx hw => (hI wx hw).at (i := 0) rfl) (sizeKv hlen2.out) ?_
   refine hK _ ?_; clear hK K)
  (refine Inv.wpInv_step (fun K hK => ?_); go_simp; refine inv_loadR 23 _ rfl b1 rfl _ aggKey rfl _ _ (fun wx hw => (hI wx hw).at (i := 1) rfl) (sizeKv hlen.out) ?_
   refine hK _ ?_; clear hK K)
  (refine Inv.wpInv_step (fun K hK => ?_); go_simp; refine inv_call hI hI' 20 _ ?_ (fun wx stx => H3.out wx) ?_; · (intro wx hw; go_simp)
   refine hK _ ?_; clear hK K)
  iterate 6
    (refine Inv.wpInv_step (fun K hK => ?_); go_simp; apply inv_run; · (intro wx hw; go_simp; (try go_ints); (try go_simp); (try (rw [if_pos (by omega)])); (try go_simp); (first | done | rfl))
     refine hK _ ?_; clear hK K)
  (refine Inv.wpInv_step (fun K hK => ?_); go_simp; refine inv_loadR 23 _ rfl b2 rfl _ aggKey rfl _ _ (fun wx hw => (hI wx hw).at (i := 0) rfl) (sizeKv hlen2.out) ?_
   refine hK _ ?_; clear hK K)
  iterate 1
    (refine Inv.wpInv_step (fun K hK => ?_); go_simp; apply inv_run; · (intro wx hw; go_simp; (try go_ints); (try go_simp); (try (rw [if_pos (by omega)])); (try go_simp); (first | done | rfl))
     refine hK _ ?_; clear hK K)
  (refine Inv.wpInv_step (fun K hK => ?_); go_simp; refine inv_call hI hI' 23 _ ?_ (fun wx stx => H4.out wx) ?_; · (intro wx hw; go_simp)
   refine hK _ ?_; clear hK K)
  (refine Inv.wpInv_step (fun K hK => ?_); go_simp; refine inv_loadR 23 _ rfl b2 rfl _ aggKey rfl _ _ (fun wx hw => (hI wx hw).at (i := 0) rfl) (sizeKv hlen2.out) ?_
   refine hK _ ?_; clear hK K)
  iterate 3
    (refine Inv.wpInv_step (fun K hK => ?_); go_simp; apply inv_run; · (intro wx hw; go_simp; (try go_ints); (try go_simp); (try (rw [if_pos (by omega)])); (try go_simp); (first | done | rfl))
     refine hK _ ?_; clear hK K)
  refine Inv.wpInv_nil ?_
  intro w6 st6
  clear hI hI'
  go_wp2
  go_ret
  exact ⟨rfl, st6.below⟩

set_option maxHeartbeats 1000000 in
theorem BitsCompare_walk (a : List Nat) (ha : Key a) (b : List Nat) (hb : Key b) (w : World) :
    Calls Try.prog 6 #[.agg (kv a), .agg (kv b)] w fun e w' => e = .returned (.bool true) ∧ Below w.heap.size w w' := by
  have hlen : Hid (a.length = 32) := ha.len
  have hlenb : Hid (b.length = 32) := hb.len
  have HA := aliveH
  have H1 := Lib.hid (RefCompare_calls a b ha hb)
  have H2 := Lib.hid (Compare_calls a b ha hb)
  have h3 := Compare_calls b a hb ha
  rw [cmpL_anti a b] at h3
  have H3 := Lib.hid h3
  obtain ⟨c0, c1⟩ := cmpL_bd a b
  clear ha hb h3
  generalize cmpL a b = C at *
  have st := St.init w
  go_enter Try.func6, Try.ntmps6
  go_wp2_with (first | (refine wpList_boxA (by assumption) rfl 23 _ rfl _ rfl ?_; intro b1 w1 st1; clear st) | (refine wpList_boxA (by assumption) rfl 23 _ rfl _ rfl ?_; intro b2 w2 st2; clear st1) | (refine wpList_loadR rfl 23 _ rfl b1 rfl _ aggKey rfl _ _ (St.at (by assumption) (i := 1) rfl) (sizeKv hlen.out) ?_) | (refine wpList_loadR rfl 23 _ rfl b2 rfl _ aggKey rfl _ _ (St.at (by assumption) (i := 0) rfl) (sizeKv hlenb.out) ?_) | (go_at_call 25; refine (H1.out _).mono ?_; rintro e wn ⟨rfl, hbel⟩; have stn := St.call (by assumption) hbel; clear hbel) | (go_at_call 15; refine (HA.out _).mono ?_; rintro e wn ⟨rfl, hbel⟩; have stn := St.call (by assumption) hbel; clear hbel) | (go_at_call 22; with_reducible refine (H2.out _).mono ?_; rintro e wn ⟨rfl, hbel⟩; have stn := St.call (by assumption) hbel; clear hbel) | (go_at_call 22; with_reducible refine (H3.out _).mono ?_; rintro e wn ⟨rfl, hbel⟩; have stn := St.call (by assumption) hbel; clear hbel))
  go_ret
  exact ⟨rfl, stn.below⟩

end Go.Proofs.Ytdkkklhpfflpkaa
