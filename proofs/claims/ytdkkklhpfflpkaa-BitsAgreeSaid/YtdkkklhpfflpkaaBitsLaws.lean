/- The walks of the laws on bits. -/
import Derived.Test.YtdkkklhpfflpkaaAlive
open Go Go.RowKit
namespace Go.Proofs.Ytdkkklhpfflpkaa

theorem flip_flip {l : List Nat} (hk : Key l) (i : Int) : flipI (flipI l i) i = l := by
  unfold flipI
  by_cases h : 0 ≤ i ∧ i < 256
  · rw [if_pos h, if_pos h]
    have hlt : i.toNat / 8 < l.length := by rw [hk.len]; omega
    unfold flipN
    rw [List.set_set]
    have hg : (l.set (i.toNat / 8) (l.getD (i.toNat / 8) 0 ^^^ valN i.toNat)).getD (i.toNat / 8) 0 = l.getD (i.toNat / 8) 0 ^^^ valN i.toNat := by
      rw [List.getD_eq_getElem?_getD, List.getElem?_set_self hlt]; rfl
    rw [hg, Nat.xor_assoc, Nat.xor_self, Nat.xor_zero, List.getD_eq_getElem?_getD, List.getElem?_eq_getElem hlt]
    exact List.set_getElem_self hlt
  · rw [if_neg h, if_neg h]

theorem Key.flipI {l : List Nat} (h : Key l) (i : Int) : Key (flipI l i) := by
  unfold Go.Proofs.Ytdkkklhpfflpkaa.flipI
  split
  · exact h.flip _
  · exact h

theorem eqlSame (a : List Nat) (ha : Key a) (w : World) : (Op.equalIn 10000 23 (.agg (kv a)) (.agg (kv a))).run Try.prog w = .ok true w := by
  rw [eqlKey a a ha.len ha.len w]; simp
theorem eqlDiff (a b : List Nat) (ha : Key a) (hb : Key b) (h : a ≠ b) (w : World) : (Op.equalIn 10000 23 (.agg (kv a)) (.agg (kv b))).run Try.prog w = .ok false w := by
  rw [eqlKey a b ha.len hb.len w]; simp [h]

set_option maxHeartbeats 1000000 in
theorem BitsMatch_walk (l : List Nat) (hk : Key l) (i : Int) (_hi : (Lit.int .i64 i).wf = true) (w : World) :
    Calls Try.prog 3 #[.agg (kv l), .int .i64 i] w fun e w' => e = .returned (.bool true) ∧ Below w.heap.size w w' := by
  have hlen : Hid (l.length = 32) := hk.len
  have HA : Hid (∀ wx : World, Calls Try.prog 15 #[] wx fun e w' => e = .returned (.bool true) ∧ Below wx.heap.size wx w') := alive_calls
  have H1 := Lib.hid (Bit_calls l hk i)
  have H2 := Lib.hid (RefBit_calls l hk i)
  have H3 := Lib.hid (Flip_calls l hk i)
  have H4 := Lib.hid (RefFlip_calls l hk i)
  have h6 := Flip_calls (flipI l i) (hk.flipI i) i
  rw [flip_flip hk i] at h6
  have H6 := Lib.hid h6
  have hq1 := eqlSame (flipI l i) (hk.flipI i)
  have hq2 := eqlSame l hk
  have hg := guardKey
  clear hk h6 _hi
  generalize bitI l i = X at *
  generalize flipI l i = F at *
  have st := St.init w
  go_enter Try.func3, Try.ntmps3
  go_wp2_with (refine wpList_boxA (by assumption) rfl 23 _ rfl _ rfl ?_; intro b1 w1 st1; clear st)
  refine region_inv 29 st1 mixed (by kernel_rfl) ?_
  intro I hI hI'
  simp only [List.take_succ_cons, List.take_zero, List.drop_succ_cons, List.drop_zero]
  (refine Inv.wpInv_step (fun K hK => ?_); go_simp; refine inv_call hI hI' 15 _ ?_ (fun wx stx => HA.out wx) ?_; · (intro wx hw; go_simp)
   refine hK _ ?_; clear hK K)
  iterate 1
    (refine Inv.wpInv_step (fun K hK => ?_); go_simp; apply inv_run; · (intro wx hw; go_simp; (try go_ints); (try go_simp); (try (rw [if_pos (by omega)])); (try go_simp); (first | done | rfl))
     refine hK _ ?_; clear hK K)
  (refine Inv.wpInv_step (fun K hK => ?_); go_simp; refine inv_loadR 23 _ rfl b1 rfl _ aggKey rfl _ _ (fun wx hw => (hI wx hw).at (i := 0) rfl) (sizeKv hlen.out) ?_
   refine hK _ ?_; clear hK K)
  iterate 1
    (refine Inv.wpInv_step (fun K hK => ?_); go_simp; apply inv_run; · (intro wx hw; go_simp; (try go_ints); (try go_simp); (try (rw [if_pos (by omega)])); (try go_simp); (first | done | rfl))
     refine hK _ ?_; clear hK K)
  (refine Inv.wpInv_step (fun K hK => ?_); go_simp; refine inv_call hI hI' 16 _ ?_ (fun wx stx => H1.out wx) ?_; · (intro wx hw; go_simp)
   refine hK _ ?_; clear hK K)
  (refine Inv.wpInv_step (fun K hK => ?_); go_simp; refine inv_loadR 23 _ rfl b1 rfl _ aggKey rfl _ _ (fun wx hw => (hI wx hw).at (i := 0) rfl) (sizeKv hlen.out) ?_
   refine hK _ ?_; clear hK K)
  iterate 1
    (refine Inv.wpInv_step (fun K hK => ?_); go_simp; apply inv_run; · (intro wx hw; go_simp; (try go_ints); (try go_simp); (try (rw [if_pos (by omega)])); (try go_simp); (first | done | rfl))
     refine hK _ ?_; clear hK K)
  (refine Inv.wpInv_step (fun K hK => ?_); go_simp; refine inv_call hI hI' 17 _ ?_ (fun wx stx => H2.out wx) ?_; · (intro wx hw; go_simp)
   refine hK _ ?_; clear hK K)
  iterate 3
    (refine Inv.wpInv_step (fun K hK => ?_); go_simp; apply inv_run; · (intro wx hw; go_simp; (try go_ints); (try go_simp); (try (rw [if_pos (by omega)])); (try go_simp); (first | done | rfl))
     refine hK _ ?_; clear hK K)
  (refine Inv.wpInv_step (fun K hK => ?_); go_simp; refine inv_loadR 23 _ rfl b1 rfl _ aggKey rfl _ _ (fun wx hw => (hI wx hw).at (i := 0) rfl) (sizeKv hlen.out) ?_
   refine hK _ ?_; clear hK K)
  iterate 1
    (refine Inv.wpInv_step (fun K hK => ?_); go_simp; apply inv_run; · (intro wx hw; go_simp; (try go_ints); (try go_simp); (try (rw [if_pos (by omega)])); (try go_simp); (first | done | rfl))
     refine hK _ ?_; clear hK K)
  (refine Inv.wpInv_step (fun K hK => ?_); go_simp; refine inv_call hI hI' 18 _ ?_ (fun wx stx => H3.out wx) ?_; · (intro wx hw; go_simp)
   refine hK _ ?_; clear hK K)
  (refine Inv.wpInv_step (fun K hK => ?_); go_simp; refine inv_loadR 23 _ rfl b1 rfl _ aggKey rfl _ _ (fun wx hw => (hI wx hw).at (i := 0) rfl) (sizeKv hlen.out) ?_
   refine hK _ ?_; clear hK K)
  iterate 1
    (refine Inv.wpInv_step (fun K hK => ?_); go_simp; apply inv_run; · (intro wx hw; go_simp; (try go_ints); (try go_simp); (try (rw [if_pos (by omega)])); (try go_simp); (first | done | rfl))
     refine hK _ ?_; clear hK K)
  (refine Inv.wpInv_step (fun K hK => ?_); go_simp; refine inv_call hI hI' 19 _ ?_ (fun wx stx => H4.out wx) ?_; · (intro wx hw; go_simp)
   refine hK _ ?_; clear hK K)
  iterate 3
    (refine Inv.wpInv_step (fun K hK => ?_); go_simp; apply inv_run; · (intro wx hw; go_simp; (try go_ints); (try go_simp); (try (rw [if_pos (by omega)])); (try go_simp); (first | done | rfl))
     refine hK _ ?_; clear hK K)
  (refine Inv.wpInv_step (fun K hK => ?_); go_simp; refine inv_loadR 23 _ rfl b1 rfl _ aggKey rfl _ _ (fun wx hw => (hI wx hw).at (i := 0) rfl) (sizeKv hlen.out) ?_
   refine hK _ ?_; clear hK K)
  iterate 1
    (refine Inv.wpInv_step (fun K hK => ?_); go_simp; apply inv_run; · (intro wx hw; go_simp; (try go_ints); (try go_simp); (try (rw [if_pos (by omega)])); (try go_simp); (first | done | rfl))
     refine hK _ ?_; clear hK K)
  (refine Inv.wpInv_step (fun K hK => ?_); go_simp; refine inv_call hI hI' 18 _ ?_ (fun wx stx => H3.out wx) ?_; · (intro wx hw; go_simp)
   refine hK _ ?_; clear hK K)
  iterate 1
    (refine Inv.wpInv_step (fun K hK => ?_); go_simp; apply inv_run; · (intro wx hw; go_simp; (try go_ints); (try go_simp); (try (rw [if_pos (by omega)])); (try go_simp); (first | done | rfl))
     refine hK _ ?_; clear hK K)
  (refine Inv.wpInv_step (fun K hK => ?_); go_simp; refine inv_call hI hI' 18 _ ?_ (fun wx stx => H6.out wx) ?_; · (intro wx hw; go_simp)
   refine hK _ ?_; clear hK K)
  (refine Inv.wpInv_step (fun K hK => ?_); go_simp; refine inv_loadR 23 _ rfl b1 rfl _ aggKey rfl _ _ (fun wx hw => (hI wx hw).at (i := 0) rfl) (sizeKv hlen.out) ?_
   refine hK _ ?_; clear hK K)
  iterate 3
    (refine Inv.wpInv_step (fun K hK => ?_); go_simp; apply inv_run; · (intro wx hw; go_simp; (try go_ints); (try go_simp); (try (rw [if_pos (by omega)])); (try go_simp); (first | done | rfl))
     refine hK _ ?_; clear hK K)
  refine Inv.wpInv_nil ?_
  intro w6 st6
  clear st1 hI hI'
  go_wp2
  go_ret
  exact ⟨rfl, st6.below⟩

end Go.Proofs.Ytdkkklhpfflpkaa
