/- The walk of BitmapChanges. -/
import Derived.Test.YtdkkklhpfflpkaaBmLaws
import Derived.Test.YtdkkklhpfflpkaaMix
open Go Go.RowKit
namespace Go.Proofs.Ytdkkklhpfflpkaa
attribute [local irreducible] Inv.wpInv Mix.wpUp

theorem or_out {b : List Nat} {i : Int} (h : ¬ (0 ≤ i ∧ i < 256)) : orI b i = b := by
  unfold orI flipI
  rw [if_neg h]
  split <;> rfl
theorem and_out {b : List Nat} {i : Int} (h : ¬ (0 ≤ i ∧ i < 256)) : andI b i = b := by
  unfold andI flipI
  rw [if_neg h]
  split <;> rfl
theorem or_has {b : List Nat} (hk : Key b) {i : Int} (h : 0 ≤ i ∧ i < 256) (j : Int) : (bitI (orI b i) j == 1) = (decide (j = i) || (bitI b j == 1)) := by
  by_cases hj : 0 ≤ j ∧ j < 256
  · rw [bitI_lt hj, bitI_lt hj, orI_bit hk i _ (by omega)]
    by_cases e : j = i
    · rw [if_pos (by omega)]; simp [e]
    · rw [if_neg (by omega)]; simp [e]
  · have e : ¬ j = i := by omega
    rw [bitI_out hj, bitI_out hj]; simp [e]
theorem and_has {b : List Nat} (hk : Key b) {i : Int} (h : 0 ≤ i ∧ i < 256) (j : Int) : (bitI (andI b i) j == 1) = (!decide (j = i) && (bitI b j == 1)) := by
  by_cases hj : 0 ≤ j ∧ j < 256
  · rw [bitI_lt hj, bitI_lt hj, andI_bit hk i _ (by omega)]
    by_cases e : j = i
    · rw [if_pos (by omega)]; simp [e]
    · rw [if_neg (by omega)]; simp [e]
  · have e : ¬ j = i := by omega
    rw [bitI_out hj, bitI_out hj]; simp [e]
theorem and_or {b : List Nat} (hk : Key b) (i : Int) : andI (orI b i) i = andI b i :=
  key_ext (hk.or i |>.and i) (hk.and i) fun j hj => by
    rw [andI_bit (hk.or i) i j hj, andI_bit hk i j hj, orI_bit hk i j hj]
    split <;> rfl
theorem or_and {b : List Nat} (hk : Key b) (i : Int) : orI (andI b i) i = orI b i :=
  key_ext (hk.and i |>.or i) (hk.or i) fun j hj => by
    rw [orI_bit (hk.and i) i j hj, orI_bit hk i j hj, andI_bit hk i j hj]
    split <;> rfl
theorem len_or {b : List Nat} (hk : Key b) {i : Int} (h : 0 ≤ i ∧ i < 256) : ((lenN (orI b i) : Nat) : Int) = (lenN (andI b i) : Nat) + 1 ∧ ((lenN (andI b i) : Nat) : Int) ≤ 256 := by
  have h1 := setB_or_and hk i.toNat (by omega)
  rw [show ((i.toNat : Nat) : Int) = i by omega] at h1
  rw [lenN_eq (hk.or i), lenN_eq (hk.and i)]
  have h2 : (setB (andI b i)).length ≤ 256 := by
    unfold setB
    have := List.length_filter_le (fun j => bitN (andI b i) j == 1) (List.range 256)
    simpa using this
  omega

set_option maxHeartbeats 4000000 in
theorem BitmapChanges_walk (w : World) (b : List Nat) (hk : Key b) (i : Int) (_hi : (Lit.int .i64 i).wf = true) (j : Int) (_hj : (Lit.int .i64 j).wf = true) :
    Calls Try.prog 11 #[.agg (kv b), .int .i64 i, .int .i64 j] w fun e w' => e = .returned (.bool true) ∧ Below w.heap.size w w' := by
  have hlen : Hid (b.length = 32) := hk.len
  have hlen0 : Hid (zero32.length = 32) := key_zero.len
  have hlA : Hid ((orI b i).length = 32) := (hk.or i).len
  have hlC : Hid ((andI b i).length = 32) := (hk.and i).len
  have HA := alive14H
  have H1 := Lib.hid (With_calls b hk i)
  have H2 := Lib.hid (Without_calls b hk i)
  have st := St.init w
  have F1 : Hid (¬ (0 ≤ i ∧ i < 256) → orI b i = b ∧ andI b i = b) := fun h => ⟨or_out h, and_out h⟩
  have F2 : Hid (0 ≤ i ∧ i < 256 → (∀ x, (bitI (orI b i) x == 1) = (decide (x = i) || (bitI b x == 1))) ∧ (∀ x, (bitI (andI b i) x == 1) = (!decide (x = i) && (bitI b x == 1))) ∧ andI (orI b i) i = andI b i ∧ orI (andI b i) i = orI b i ∧ ((lenN (orI b i) : Nat) : Int) = (lenN (andI b i) : Nat) + 1 ∧ ((lenN (andI b i) : Nat) : Int) ≤ 256) :=
    fun h => ⟨or_has hk h, and_has hk h, and_or hk i, or_and hk i, len_or hk h⟩
  have HK := Lib.hid hk
  have KA := Lib.hid (hk.or i)
  have KC := Lib.hid (hk.and i)
  clear hk
  generalize orI b i = A at *
  generalize andI b i = C at *
  go_enter Try.func11, Try.ntmps11
  go_wp2_with (first | (refine wpList_boxA (by assumption) rfl 34 _ rfl _ rfl ?_; intro b1 w1 st1; clear st))
  refine Mix.wp_region_mix 8 (St w.heap.size w [(b1, kv b, 34)]) mixed (by kernel_rfl) st1.drew ?_
  intro F inv
  refine Mix.good_batch (f := 2) F St.up [0, 1, 2, 3, 4, 5] _ _ inv (by kernel_rfl) ?_
  clear inv
  (refine Mix.wpUp_cons rfl (fun K hK => ?_); go_simp; refine up_loadR 34 _ rfl b1 rfl _ aggBm rfl _ _ (fun wx hw => hw.at (i := 0) rfl) (sizeBm hlen.out) ?_
   refine hK _ ?_; clear hK K)
  iterate 1
    (refine Mix.wpUp_cons rfl (fun K hK => ?_); go_simp; apply up_run; · (intro wx hw; go_simp; (try go_ints); (try go_simp); (try (rw [if_pos (by omega)])); (try go_simp); (first | done | rfl))
     refine hK _ ?_; clear hK K)
  (refine Mix.wpUp_cons rfl (fun K hK => ?_); go_simp; refine up_call 31 _ ?_ (fun wx stx => H1.out wx) ?_; · (intro wx hw; go_simp)
   refine hK _ ?_; clear hK K)
  (refine Mix.wpUp_cons rfl (fun K hK => ?_); go_simp; refine up_loadR 34 _ rfl b1 rfl _ aggBm rfl _ _ (fun wx hw => hw.at (i := 0) rfl) (sizeBm hlen.out) ?_
   refine hK _ ?_; clear hK K)
  iterate 1
    (refine Mix.wpUp_cons rfl (fun K hK => ?_); go_simp; apply up_run; · (intro wx hw; go_simp; (try go_ints); (try go_simp); (try (rw [if_pos (by omega)])); (try go_simp); (first | done | rfl))
     refine hK _ ?_; clear hK K)
  (refine Mix.wpUp_cons rfl (fun K hK => ?_); go_simp; refine up_call 32 _ ?_ (fun wx stx => H2.out wx) ?_; · (intro wx hw; go_simp)
   refine hK _ ?_; clear hK K)
  refine Mix.wpUp_nil ?_
  intro inv
  refine good_news (i := 6) (k := 7) (f := 0) (by kernel_rfl) (by kernel_rfl) (by kernel_rfl) (by decide) inv rfl rfl (by simp) rfl rfl 34 rfl rfl (kv zero32) zeroBm ?_
  clear inv
  intro b7 b8 inv
  clear inv
  refine ⟨by kernel_rfl, fun w2 st2 => ?_⟩
  clear F st1
  simp only [List.drop_succ_cons, List.drop_zero]
  by_cases hin : ¬ (0 ≤ i ∧ i < 256)
  · obtain ⟨rfl, rfl⟩ := F1.out hin
    clear F1 F2
    have hq : ∀ w, (Op.equalIn 10000 34 (.agg (kv C)) (.agg (kv C))).run Try.prog w = .ok true w := fun w => by rw [eqlBm C C hlC.out hlC.out w]; simp
    have hg := guardBm
    rcases (by omega : i < 0 ∨ (0 ≤ i ∧ 255 < i)) with hlo | ⟨hlo, hhi⟩
    all_goals
      go_wp2_with (first | (refine wpList_storeR st2 rfl 34 _ _ rfl 1 b7 rfl (.agg (kv C)) rfl _ _ rfl (sizeBm hlC.out) (by show (kv C).size = _; rw [kv_size, hlC.out, kv_size, hlen0.out]) (kv_one _) [(b8, kv zero32, 34), (b7, kv C, 34), (b1, kv C, 34)] rfl ?_; intro w3 st3; clear st2) | (refine wpList_storeR st3 rfl 34 _ _ rfl 0 b8 rfl (.agg (kv C)) rfl _ _ rfl (sizeBm hlC.out) (by show (kv C).size = _; rw [kv_size, hlC.out, kv_size, hlen0.out]) (kv_one _) [(b8, kv C, 34), (b7, kv C, 34), (b1, kv C, 34)] rfl ?_; intro w4 st4; clear st3) | (go_at_call 27; refine (HA.out _).mono ?_; rintro e wn ⟨rfl, hbel⟩; have stn := St.call (by assumption) hbel; clear hbel) | (refine wpList_loadR rfl 34 _ rfl b7 rfl _ aggBm rfl _ _ (St.at (by assumption) (i := 1) rfl) (sizeBm hlC.out) ?_) | (refine wpList_loadR rfl 34 _ rfl b8 rfl _ aggBm rfl _ _ (St.at (by assumption) (i := 0) rfl) (sizeBm hlC.out) ?_) | (refine wpList_loadR rfl 34 _ rfl b1 rfl _ aggBm rfl _ _ (St.at (by assumption) (i := 2) rfl) (sizeBm hlC.out) ?_))
      go_ret
      exact ⟨rfl, stn.below⟩
  · obtain ⟨f1, f2, f3, f4, f5, f6⟩ := F2.out (by omega)
    have K1 := Lib.hid (HasT A KA.out i true (by rw [f1]; simp))
    have K2 := Lib.hid (HasT C KC.out i false (by rw [f2]; simp))
    have K6 : Hid (∀ wx : World, Calls Try.prog 32 #[.agg (kv A), .int .i64 i] wx fun e w' => e = .returned (.agg (kv C)) ∧ Below wx.heap.size wx w') := fun wx => by
      have h := Without_calls A KA.out i wx
      rw [f3] at h
      exact h
    have K7 : Hid (∀ wx : World, Calls Try.prog 31 #[.agg (kv C), .int .i64 i] wx fun e w' => e = .returned (.agg (kv A)) ∧ Below wx.heap.size wx w') := fun wx => by
      have h := With_calls C KC.out i wx
      rw [f4] at h
      exact h
    have K8 := Lib.hid (Len_calls A KA.out)
    have K9 := Lib.hid (Len_calls C KC.out)
    rw [f5] at K8
    have n0 : (0 : Int) ≤ (lenN C : Nat) := by omega
    have g1 := f1 j
    have g2 := f2 j
    have e0 : (A = A) := rfl
    have HqA : Hid (∀ wx : World, (Op.equalIn 10000 34 (.agg (kv A)) (.agg (kv A))).run Try.prog wx = .ok true wx) := fun w => by rw [eqlBm _ _ hlA.out hlA.out w]; simp
    have HqC : Hid (∀ wx : World, (Op.equalIn 10000 34 (.agg (kv C)) (.agg (kv C))).run Try.prog wx = .ok true wx) := fun w => by rw [eqlBm _ _ hlC.out hlC.out w]; simp
    have hg := guardBm
    have i0 : 0 ≤ i := by omega
    have i1 : i < 256 := by omega
    generalize ((lenN C : Nat) : Int) = N at *
    clear F1 F2 f1 f2 f3 f4 f5 hin e0
    go_wp2_with (first | (refine wpList_storeR st2 rfl 34 _ _ rfl 1 b7 rfl (.agg (kv A)) rfl _ _ rfl (sizeBm hlA.out) (by show (kv A).size = _; rw [kv_size, hlA.out, kv_size, hlen0.out]) (kv_one _) [(b8, kv zero32, 34), (b7, kv A, 34), (b1, kv b, 34)] rfl ?_; intro w3 st3; clear st2) | (refine wpList_storeR st3 rfl 34 _ _ rfl 0 b8 rfl (.agg (kv C)) rfl _ _ rfl (sizeBm hlC.out) (by show (kv C).size = _; rw [kv_size, hlC.out, kv_size, hlen0.out]) (kv_one _) [(b8, kv C, 34), (b7, kv A, 34), (b1, kv b, 34)] rfl ?_; intro w4 st4; clear st3))
    by_cases hij : i = j
    · have hij' : (i == j) = true := by rw [hij]; exact beq_self_eq_true j
      clear g1 g2 hij
      refine region_inv 58 st4 mixed (by kernel_rfl) ?_
      intro I hI hI'
      simp only [List.take_succ_cons, List.take_zero, List.drop_succ_cons, List.drop_zero]
      (refine Inv.wpInv_step (fun K hK => ?_); go_simp; refine inv_call hI hI' 27 _ ?_ (fun wx stx => HA.out wx) ?_; · (intro wx hw; go_simp)
       refine hK _ ?_; clear hK K)
      iterate 1
        (refine Inv.wpInv_step (fun K hK => ?_); go_simp; apply inv_run; · (intro wx hw; go_simp; (try go_ints); (try go_simp); (try (rw [if_pos (by omega)])); (try go_simp); (first | done | rfl))
         refine hK _ ?_; clear hK K)
      (refine Inv.wpInv_step (fun K hK => ?_); go_simp; refine inv_loadR 34 _ rfl b7 rfl _ aggBm rfl _ _ (fun wx hw => (hI wx hw).at (i := 1) rfl) (sizeBm hlA.out) ?_
       refine hK _ ?_; clear hK K)
      iterate 1
        (refine Inv.wpInv_step (fun K hK => ?_); go_simp; apply inv_run; · (intro wx hw; go_simp; (try go_ints); (try go_simp); (try (rw [if_pos (by omega)])); (try go_simp); (first | done | rfl))
         refine hK _ ?_; clear hK K)
      (refine Inv.wpInv_step (fun K hK => ?_); go_simp; refine inv_call hI hI' 30 _ ?_ (fun wx stx => K1.out wx) ?_; · (intro wx hw; go_simp)
       refine hK _ ?_; clear hK K)
      iterate 2
        (refine Inv.wpInv_step (fun K hK => ?_); go_simp; apply inv_run; · (intro wx hw; go_simp; (try go_ints); (try go_simp); (try (rw [if_pos (by omega)])); (try go_simp); (first | done | rfl))
         refine hK _ ?_; clear hK K)
      (refine Inv.wpInv_step (fun K hK => ?_); go_simp; refine inv_loadR 34 _ rfl b8 rfl _ aggBm rfl _ _ (fun wx hw => (hI wx hw).at (i := 0) rfl) (sizeBm hlC.out) ?_
       refine hK _ ?_; clear hK K)
      iterate 1
        (refine Inv.wpInv_step (fun K hK => ?_); go_simp; apply inv_run; · (intro wx hw; go_simp; (try go_ints); (try go_simp); (try (rw [if_pos (by omega)])); (try go_simp); (first | done | rfl))
         refine hK _ ?_; clear hK K)
      (refine Inv.wpInv_step (fun K hK => ?_); go_simp; refine inv_call hI hI' 30 _ ?_ (fun wx stx => K2.out wx) ?_; · (intro wx hw; go_simp)
       refine hK _ ?_; clear hK K)
      iterate 7
        (refine Inv.wpInv_step (fun K hK => ?_); go_simp; apply inv_run; · (intro wx hw; go_simp; (try go_ints); (try go_simp); (try (rw [if_pos (by omega)])); (try go_simp); (first | done | rfl))
         refine hK _ ?_; clear hK K)
      iterate 16 (refine Inv.wpInv_step (fun K hK => ?_); go_simp; refine hK _ ?_; clear hK K)
      iterate 3
        (refine Inv.wpInv_step (fun K hK => ?_); go_simp; apply inv_run; · (intro wx hw; go_simp; (try go_ints); (try go_simp); (try (rw [if_pos (by omega)])); (try go_simp); (first | done | rfl))
         refine hK _ ?_; clear hK K)
      (refine Inv.wpInv_step (fun K hK => ?_); go_simp; refine inv_loadR 34 _ rfl b7 rfl _ aggBm rfl _ _ (fun wx hw => (hI wx hw).at (i := 1) rfl) (sizeBm hlA.out) ?_
       refine hK _ ?_; clear hK K)
      iterate 1
        (refine Inv.wpInv_step (fun K hK => ?_); go_simp; apply inv_run; · (intro wx hw; go_simp; (try go_ints); (try go_simp); (try (rw [if_pos (by omega)])); (try go_simp); (first | done | rfl))
         refine hK _ ?_; clear hK K)
      (refine Inv.wpInv_step (fun K hK => ?_); go_simp; refine inv_call hI hI' 32 _ ?_ (fun wx stx => K6.out wx) ?_; · (intro wx hw; go_simp)
       refine hK _ ?_; clear hK K)
      (refine Inv.wpInv_step (fun K hK => ?_); go_simp; refine inv_loadR 34 _ rfl b8 rfl _ aggBm rfl _ _ (fun wx hw => (hI wx hw).at (i := 0) rfl) (sizeBm hlC.out) ?_
       refine hK _ ?_; clear hK K)
      iterate 3
        (refine Inv.wpInv_step (fun K hK => ?_); go_simp; apply inv_run; · (intro wx hw; have q1 := (fun x (_ : I x) => HqC.out x) wx hw; go_simp; (try go_ints); (try go_simp); (try (rw [if_pos (by omega)])); (try go_simp); (first | done | rfl))
         refine hK _ ?_; clear hK K)
      (refine Inv.wpInv_step (fun K hK => ?_); go_simp; refine inv_loadR 34 _ rfl b8 rfl _ aggBm rfl _ _ (fun wx hw => (hI wx hw).at (i := 0) rfl) (sizeBm hlC.out) ?_
       refine hK _ ?_; clear hK K)
      iterate 1
        (refine Inv.wpInv_step (fun K hK => ?_); go_simp; apply inv_run; · (intro wx hw; go_simp; (try go_ints); (try go_simp); (try (rw [if_pos (by omega)])); (try go_simp); (first | done | rfl))
         refine hK _ ?_; clear hK K)
      (refine Inv.wpInv_step (fun K hK => ?_); go_simp; refine inv_call hI hI' 31 _ ?_ (fun wx stx => K7.out wx) ?_; · (intro wx hw; go_simp)
       refine hK _ ?_; clear hK K)
      (refine Inv.wpInv_step (fun K hK => ?_); go_simp; refine inv_loadR 34 _ rfl b7 rfl _ aggBm rfl _ _ (fun wx hw => (hI wx hw).at (i := 1) rfl) (sizeBm hlA.out) ?_
       refine hK _ ?_; clear hK K)
      iterate 3
        (refine Inv.wpInv_step (fun K hK => ?_); go_simp; apply inv_run; · (intro wx hw; have q1 := (fun x (_ : I x) => HqA.out x) wx hw; go_simp; (try go_ints); (try go_simp); (try (rw [if_pos (by omega)])); (try go_simp); (first | done | rfl))
         refine hK _ ?_; clear hK K)
      (refine Inv.wpInv_step (fun K hK => ?_); go_simp; refine inv_loadR 34 _ rfl b7 rfl _ aggBm rfl _ _ (fun wx hw => (hI wx hw).at (i := 1) rfl) (sizeBm hlA.out) ?_
       refine hK _ ?_; clear hK K)
      (refine Inv.wpInv_step (fun K hK => ?_); go_simp; refine inv_call hI hI' 33 _ ?_ (fun wx stx => K8.out wx) ?_; · (intro wx hw; go_simp)
       refine hK _ ?_; clear hK K)
      (refine Inv.wpInv_step (fun K hK => ?_); go_simp; refine inv_loadR 34 _ rfl b8 rfl _ aggBm rfl _ _ (fun wx hw => (hI wx hw).at (i := 0) rfl) (sizeBm hlC.out) ?_
       refine hK _ ?_; clear hK K)
      (refine Inv.wpInv_step (fun K hK => ?_); go_simp; refine inv_call hI hI' 33 _ ?_ (fun wx stx => K9.out wx) ?_; · (intro wx hw; go_simp)
       refine hK _ ?_; clear hK K)
      iterate 4
        (refine Inv.wpInv_step (fun K hK => ?_); go_simp; apply inv_run; · (intro wx hw; go_simp; (try go_ints); (try go_simp); (try (rw [if_pos (by omega)])); (try go_simp); (first | done | rfl))
         refine hK _ ?_; clear hK K)
      refine Inv.wpInv_nil ?_
      intro w6 st6
      clear hI hI'
      go_wp2
      go_ret
      exact ⟨rfl, st6.below⟩
    · have K3 := Lib.hid (HasT A KA.out j _ g1)
      have K5 := Lib.hid (HasT C KC.out j _ g2)
      have hji : decide (j = i) = false := by simp; omega
      have hij' : (i == j) = false := by rw [beq_eq_false_iff_ne]; exact hij
      rw [hji] at K3 K5
      simp only [Bool.false_or, Bool.not_false, Bool.true_and] at K3 K5
      have K4 := Lib.hid (HasT b HK.out j _ rfl)
      clear g1 g2 hji hij
      generalize (bitI b j == 1) = X at *
      refine region_inv 58 st4 mixed (by kernel_rfl) ?_
      intro I hI hI'
      simp only [List.take_succ_cons, List.take_zero, List.drop_succ_cons, List.drop_zero]
      (refine Inv.wpInv_step (fun K hK => ?_); go_simp; refine inv_call hI hI' 27 _ ?_ (fun wx stx => HA.out wx) ?_; · (intro wx hw; go_simp)
       refine hK _ ?_; clear hK K)
      iterate 1
        (refine Inv.wpInv_step (fun K hK => ?_); go_simp; apply inv_run; · (intro wx hw; go_simp; (try go_ints); (try go_simp); (try (rw [if_pos (by omega)])); (try go_simp); (first | done | rfl))
         refine hK _ ?_; clear hK K)
      (refine Inv.wpInv_step (fun K hK => ?_); go_simp; refine inv_loadR 34 _ rfl b7 rfl _ aggBm rfl _ _ (fun wx hw => (hI wx hw).at (i := 1) rfl) (sizeBm hlA.out) ?_
       refine hK _ ?_; clear hK K)
      iterate 1
        (refine Inv.wpInv_step (fun K hK => ?_); go_simp; apply inv_run; · (intro wx hw; go_simp; (try go_ints); (try go_simp); (try (rw [if_pos (by omega)])); (try go_simp); (first | done | rfl))
         refine hK _ ?_; clear hK K)
      (refine Inv.wpInv_step (fun K hK => ?_); go_simp; refine inv_call hI hI' 30 _ ?_ (fun wx stx => K1.out wx) ?_; · (intro wx hw; go_simp)
       refine hK _ ?_; clear hK K)
      iterate 2
        (refine Inv.wpInv_step (fun K hK => ?_); go_simp; apply inv_run; · (intro wx hw; go_simp; (try go_ints); (try go_simp); (try (rw [if_pos (by omega)])); (try go_simp); (first | done | rfl))
         refine hK _ ?_; clear hK K)
      (refine Inv.wpInv_step (fun K hK => ?_); go_simp; refine inv_loadR 34 _ rfl b8 rfl _ aggBm rfl _ _ (fun wx hw => (hI wx hw).at (i := 0) rfl) (sizeBm hlC.out) ?_
       refine hK _ ?_; clear hK K)
      iterate 1
        (refine Inv.wpInv_step (fun K hK => ?_); go_simp; apply inv_run; · (intro wx hw; go_simp; (try go_ints); (try go_simp); (try (rw [if_pos (by omega)])); (try go_simp); (first | done | rfl))
         refine hK _ ?_; clear hK K)
      (refine Inv.wpInv_step (fun K hK => ?_); go_simp; refine inv_call hI hI' 30 _ ?_ (fun wx stx => K2.out wx) ?_; · (intro wx hw; go_simp)
       refine hK _ ?_; clear hK K)
      iterate 7
        (refine Inv.wpInv_step (fun K hK => ?_); go_simp; apply inv_run; · (intro wx hw; go_simp; (try go_ints); (try go_simp); (try (rw [if_pos (by omega)])); (try go_simp); (first | done | rfl))
         refine hK _ ?_; clear hK K)
      (refine Inv.wpInv_step (fun K hK => ?_); go_simp; refine inv_loadR 34 _ rfl b7 rfl _ aggBm rfl _ _ (fun wx hw => (hI wx hw).at (i := 1) rfl) (sizeBm hlA.out) ?_
       refine hK _ ?_; clear hK K)
      iterate 1
        (refine Inv.wpInv_step (fun K hK => ?_); go_simp; apply inv_run; · (intro wx hw; go_simp; (try go_ints); (try go_simp); (try (rw [if_pos (by omega)])); (try go_simp); (first | done | rfl))
         refine hK _ ?_; clear hK K)
      (refine Inv.wpInv_step (fun K hK => ?_); go_simp; refine inv_call hI hI' 30 _ ?_ (fun wx stx => K3.out wx) ?_; · (intro wx hw; go_simp)
       refine hK _ ?_; clear hK K)
      (refine Inv.wpInv_step (fun K hK => ?_); go_simp; refine inv_loadR 34 _ rfl b1 rfl _ aggBm rfl _ _ (fun wx hw => (hI wx hw).at (i := 2) rfl) (sizeBm hlen.out) ?_
       refine hK _ ?_; clear hK K)
      iterate 1
        (refine Inv.wpInv_step (fun K hK => ?_); go_simp; apply inv_run; · (intro wx hw; go_simp; (try go_ints); (try go_simp); (try (rw [if_pos (by omega)])); (try go_simp); (first | done | rfl))
         refine hK _ ?_; clear hK K)
      (refine Inv.wpInv_step (fun K hK => ?_); go_simp; refine inv_call hI hI' 30 _ ?_ (fun wx stx => K4.out wx) ?_; · (intro wx hw; go_simp)
       refine hK _ ?_; clear hK K)
      iterate 1
        (refine Inv.wpInv_step (fun K hK => ?_); go_simp; apply inv_run; · (intro wx hw; go_simp; (try go_ints); (try go_simp); (try (rw [if_pos (by omega)])); (try go_simp); (first | done | rfl))
         refine hK _ ?_; clear hK K)
      iterate 1
        (refine Inv.wpInv_step (fun K hK => ?_); go_simp; apply inv_run; · (intro wx hw; go_simp; (try go_ints); (try go_simp); (try (rw [if_pos (by omega)])); (try go_simp); (first | done | rfl))
         refine hK _ ?_; clear hK K)
      (refine Inv.wpInv_step (fun K hK => ?_); go_simp; refine inv_loadR 34 _ rfl b8 rfl _ aggBm rfl _ _ (fun wx hw => (hI wx hw).at (i := 0) rfl) (sizeBm hlC.out) ?_
       refine hK _ ?_; clear hK K)
      iterate 1
        (refine Inv.wpInv_step (fun K hK => ?_); go_simp; apply inv_run; · (intro wx hw; go_simp; (try go_ints); (try go_simp); (try (rw [if_pos (by omega)])); (try go_simp); (first | done | rfl))
         refine hK _ ?_; clear hK K)
      (refine Inv.wpInv_step (fun K hK => ?_); go_simp; refine inv_call hI hI' 30 _ ?_ (fun wx stx => K5.out wx) ?_; · (intro wx hw; go_simp)
       refine hK _ ?_; clear hK K)
      (refine Inv.wpInv_step (fun K hK => ?_); go_simp; refine inv_loadR 34 _ rfl b1 rfl _ aggBm rfl _ _ (fun wx hw => (hI wx hw).at (i := 2) rfl) (sizeBm hlen.out) ?_
       refine hK _ ?_; clear hK K)
      iterate 1
        (refine Inv.wpInv_step (fun K hK => ?_); go_simp; apply inv_run; · (intro wx hw; go_simp; (try go_ints); (try go_simp); (try (rw [if_pos (by omega)])); (try go_simp); (first | done | rfl))
         refine hK _ ?_; clear hK K)
      (refine Inv.wpInv_step (fun K hK => ?_); go_simp; refine inv_call hI hI' 30 _ ?_ (fun wx stx => K4.out wx) ?_; · (intro wx hw; go_simp)
       refine hK _ ?_; clear hK K)
      iterate 1
        (refine Inv.wpInv_step (fun K hK => ?_); go_simp; apply inv_run; · (intro wx hw; go_simp; (try go_ints); (try go_simp); (try (rw [if_pos (by omega)])); (try go_simp); (first | done | rfl))
         refine hK _ ?_; clear hK K)
      iterate 4
        (refine Inv.wpInv_step (fun K hK => ?_); go_simp; apply inv_run; · (intro wx hw; go_simp; (try go_ints); (try go_simp); (try (rw [if_pos (by omega)])); (try go_simp); (first | done | rfl))
         refine hK _ ?_; clear hK K)
      (refine Inv.wpInv_step (fun K hK => ?_); go_simp; refine inv_loadR 34 _ rfl b7 rfl _ aggBm rfl _ _ (fun wx hw => (hI wx hw).at (i := 1) rfl) (sizeBm hlA.out) ?_
       refine hK _ ?_; clear hK K)
      iterate 1
        (refine Inv.wpInv_step (fun K hK => ?_); go_simp; apply inv_run; · (intro wx hw; go_simp; (try go_ints); (try go_simp); (try (rw [if_pos (by omega)])); (try go_simp); (first | done | rfl))
         refine hK _ ?_; clear hK K)
      (refine Inv.wpInv_step (fun K hK => ?_); go_simp; refine inv_call hI hI' 32 _ ?_ (fun wx stx => K6.out wx) ?_; · (intro wx hw; go_simp)
       refine hK _ ?_; clear hK K)
      (refine Inv.wpInv_step (fun K hK => ?_); go_simp; refine inv_loadR 34 _ rfl b8 rfl _ aggBm rfl _ _ (fun wx hw => (hI wx hw).at (i := 0) rfl) (sizeBm hlC.out) ?_
       refine hK _ ?_; clear hK K)
      iterate 3
        (refine Inv.wpInv_step (fun K hK => ?_); go_simp; apply inv_run; · (intro wx hw; have q1 := (fun x (_ : I x) => HqC.out x) wx hw; go_simp; (try go_ints); (try go_simp); (try (rw [if_pos (by omega)])); (try go_simp); (first | done | rfl))
         refine hK _ ?_; clear hK K)
      (refine Inv.wpInv_step (fun K hK => ?_); go_simp; refine inv_loadR 34 _ rfl b8 rfl _ aggBm rfl _ _ (fun wx hw => (hI wx hw).at (i := 0) rfl) (sizeBm hlC.out) ?_
       refine hK _ ?_; clear hK K)
      iterate 1
        (refine Inv.wpInv_step (fun K hK => ?_); go_simp; apply inv_run; · (intro wx hw; go_simp; (try go_ints); (try go_simp); (try (rw [if_pos (by omega)])); (try go_simp); (first | done | rfl))
         refine hK _ ?_; clear hK K)
      (refine Inv.wpInv_step (fun K hK => ?_); go_simp; refine inv_call hI hI' 31 _ ?_ (fun wx stx => K7.out wx) ?_; · (intro wx hw; go_simp)
       refine hK _ ?_; clear hK K)
      (refine Inv.wpInv_step (fun K hK => ?_); go_simp; refine inv_loadR 34 _ rfl b7 rfl _ aggBm rfl _ _ (fun wx hw => (hI wx hw).at (i := 1) rfl) (sizeBm hlA.out) ?_
       refine hK _ ?_; clear hK K)
      iterate 3
        (refine Inv.wpInv_step (fun K hK => ?_); go_simp; apply inv_run; · (intro wx hw; have q1 := (fun x (_ : I x) => HqA.out x) wx hw; go_simp; (try go_ints); (try go_simp); (try (rw [if_pos (by omega)])); (try go_simp); (first | done | rfl))
         refine hK _ ?_; clear hK K)
      (refine Inv.wpInv_step (fun K hK => ?_); go_simp; refine inv_loadR 34 _ rfl b7 rfl _ aggBm rfl _ _ (fun wx hw => (hI wx hw).at (i := 1) rfl) (sizeBm hlA.out) ?_
       refine hK _ ?_; clear hK K)
      (refine Inv.wpInv_step (fun K hK => ?_); go_simp; refine inv_call hI hI' 33 _ ?_ (fun wx stx => K8.out wx) ?_; · (intro wx hw; go_simp)
       refine hK _ ?_; clear hK K)
      (refine Inv.wpInv_step (fun K hK => ?_); go_simp; refine inv_loadR 34 _ rfl b8 rfl _ aggBm rfl _ _ (fun wx hw => (hI wx hw).at (i := 0) rfl) (sizeBm hlC.out) ?_
       refine hK _ ?_; clear hK K)
      (refine Inv.wpInv_step (fun K hK => ?_); go_simp; refine inv_call hI hI' 33 _ ?_ (fun wx stx => K9.out wx) ?_; · (intro wx hw; go_simp)
       refine hK _ ?_; clear hK K)
      iterate 4
        (refine Inv.wpInv_step (fun K hK => ?_); go_simp; apply inv_run; · (intro wx hw; go_simp; (try go_ints); (try go_simp); (try (rw [if_pos (by omega)])); (try go_simp); (first | done | rfl))
         refine hK _ ?_; clear hK K)
      refine Inv.wpInv_nil ?_
      intro w6 st6
      clear hI hI'
      go_wp2
      go_ret
      exact ⟨rfl, st6.below⟩

end Go.Proofs.Ytdkkklhpfflpkaa
