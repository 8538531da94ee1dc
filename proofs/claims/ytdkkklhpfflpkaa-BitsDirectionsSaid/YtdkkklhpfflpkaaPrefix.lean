/- Contracts of Prefix of package bits and of its reference. -/
import Derived.Test.YtdkkklhpfflpkaaPre
import Derived.Test.YtdkkklhpfflpkaaRefCompare
open Go Go.RowKit
namespace Go.Proofs.Ytdkkklhpfflpkaa

theorem kept_in (n k : Int) (h0 : 0 ≤ n) (h1 : n < 256) (k0 : 0 ≤ k) : min (max (n - 8 * k) 0) 8 = (keepN (clampN n) k.toNat : Nat) := by
  unfold keepN clampN
  omega

/-- One round of Prefix: how many bits of byte k are kept. -/
def keptI (n k : Int) : Int := if n < 0 then 0 else if 256 ≤ n then 8 else min (max (n - 8 * k) 0) 8
theorem keptI_eq (n k : Int) (k0 : 0 ≤ k) (k1 : k < 32) : keptI n k = (keepN (clampN n) k.toNat : Nat) := by
  unfold keptI
  by_cases h : n < 0
  · rw [if_pos h]; unfold keepN clampN; omega
  · rw [if_neg h]
    by_cases h2 : 256 ≤ n
    · rw [if_pos h2]; unfold keepN clampN; omega
    · rw [if_neg h2]; exact kept_in n k (by omega) (by omega) k0

theorem and_u8 (a b : Nat) (ha : a < 256) (hb : b < 256) : bits .and .u8 (a : Int) (b : Int) = ((a &&& b : Nat) : Int) :=
  (bits_nat .u8 8 (by decide) wraps_u8 a b ha hb).1

theorem mask_walk (x : Nat) (hx : x < 256) (m : Nat) (hm : m ≤ 8) : bits .and .u8 (x : Int) (255 * 2 ^ (8 - (m : Int)).toNat % 256) = ((maskN x m : Nat) : Int) := by
  have e : (255 * 2 ^ (8 - (m : Int)).toNat % 256 : Int) = ((255 * 2 ^ (8 - m) % 256 : Nat) : Int) := by
    rw [show (8 - (m : Int)).toNat = 8 - m by omega, Int.natCast_emod, Int.natCast_mul, Int.natCast_pow]; rfl
  rw [e, and_u8 _ _ hx (Nat.mod_lt _ (by decide)), mask_and (8 - m) (by omega) x hx, show 8 - (8 - m) = m by omega]

set_option maxHeartbeats 1000000 in
theorem Prefix_calls (l : List Nat) (hk : Key l) (n : Int) (hn0 : -9223372036854775808 ≤ n) (hn1 : n ≤ 9223372036854775807) (w : World) :
    Calls Try.prog 23 #[.agg (kv l), .int .i64 n] w fun e w' => e = .returned (.agg (kv (preC l (clampN n)))) ∧ Below w.heap.size w w' := by
  have HK := Lib.hid hk
  clear hk
  have st := St.init w
  go_enter Try.func23, Try.ntmps23
  go_wp2_with (first | (refine wpList_boxA (by assumption) rfl 23 _ rfl _ rfl ?_; intro b1 w1 st1; clear st) | (refine wpList_newA (by assumption) rfl 23 rfl _ zeroKey ?_; intro b2 w2 st2; clear st1))
  go_loopw [7] (fun i wr => ∃ k : Int, 0 ≤ k ∧ k ≤ 32 ∧ i = .int .i64 k ∧ St w.heap.size w [(b2, kv zero32, 23), (b1, kv (curP l (clampN n) k.toNat), 23)] wr) (fun i _ => (32 - intOf i).toNat)
  case atStart => exact ⟨0, by omega, by omega, rfl, by rw [show (0 : Int).toNat = 0 from rfl, curP_zero HK.out]; exact st2⟩
  case round =>
    obtain ⟨k, k0, k1, rfl, st3⟩ := hrel
    clear st2
    by_cases hlt : k < 32
    · have hm := keptI_eq n k k0 hlt
      have hx : (kv (curP l (clampN n) k.toNat))[k.toNat]? = some (.int .u8 (l.getD k.toNat 0 : Nat)) := by
        rw [kv_get _ _ (by rw [curP_len]; omega), curP_get l _ _ _ (by omega), if_neg (by omega)]
      have hkeep : keepN (clampN n) k.toNat ≤ 8 := by unfold keepN; omega
      have hmask := mask_walk (l.getD k.toNat 0) (HK.out.get _) (keepN (clampN n) k.toNat) hkeep
      have hstep := curP_step l (clampN n) k.toNat (by omega)
      have Hset : Hid ((kv (curP l (clampN n) k.toNat)).setIfInBounds k.toNat (.int .u8 (bits .and .u8 ((l.getD k.toNat 0 : Nat) : Int) (255 * 2 ^ (8 - ((keepN (clampN n) k.toNat : Nat) : Int)).toNat % 256))) = kv (curP l (clampN n) (k + 1).toNat)) := by
        unfold Hid
        rw [hmask, kv_set, hstep, show (k + 1).toNat = k.toNat + 1 by omega]
      clear hmask hstep
      have hcl : Hid ((curP l (clampN n) k.toNat).length = 32) := curP_len _ _ _
      have hm8 : (keepN (clampN n) k.toNat : Int) ≤ 8 := by omega
      have hm0 : (0 : Int) ≤ (keepN (clampN n) k.toNat : Int) := by omega
      clear hkeep
      generalize ((keepN (clampN n) k.toNat : Nat) : Int) = M at *
      generalize ((l.getD k.toNat 0 : Nat) : Int) = X at *
      generalize curP l (clampN n) k.toNat = cur at *
      generalize hnxt : curP l (clampN n) (k + 1).toNat = nxt at *
      have Hnxt := Lib.hid hnxt.symm
      clear hnxt
      have Hm := Lib.hid hm
      clear hm
      by_cases hneg : n < 0
      · obtain rfl : M = 0 := by rw [← Hm.out]; unfold keptI; rw [if_pos hneg]
        go_wp2
        refine region_inv 8 st3 mixed (by kernel_rfl) ?_
        intro I hI hI'
        have q : ∀ wx, I wx → wx.cell? ⟨b1, k.toNat, none⟩ = some (.int .u8 X) := fun wx hw => ((hI wx hw).cell (i := 1) rfl _).trans hx
        simp only [List.take_succ_cons, List.take_zero, List.drop_succ_cons, List.drop_zero]
        iterate 8
          (refine Inv.wpInv_step (fun K hK => ?_); go_simp; apply inv_run; · (intro wx hw; have q1 := q wx hw; go_simp; (try go_ints); (try go_simp); (try (rw [if_pos (by omega)])); (try go_simp); (first | done | rfl))
           refine hK _ ?_; clear hK K)
        clear q hI hI' hx
        refine Inv.wpInv_nil ?_
        intro w4 st4
        clear st3
        refine wpList_storeC st4 rfl 5 _ _ rfl 1 b1 k.toNat rfl _ rfl _ _ rfl sizeByte rfl (by rw [kv_size, hcl.out]; omega) rfl _ Hset.out _ rfl ?_
        intro w5 st5
        clear st4 Hset
        simp only [List.set_cons_succ, List.set_cons_zero] at st5
        go_wp2
        go_roundw
        case rel => exact ⟨k + 1, by omega, by omega, rfl, Hnxt.out ▸ st5⟩
        case measure => simp [intOf]; omega
      · by_cases hbig : 256 ≤ n
        · obtain rfl : M = 8 := by rw [← Hm.out]; unfold keptI; rw [if_neg hneg, if_pos hbig]
          go_wp2
          refine region_inv 8 st3 mixed (by kernel_rfl) ?_
          intro I hI hI'
          have q : ∀ wx, I wx → wx.cell? ⟨b1, k.toNat, none⟩ = some (.int .u8 X) := fun wx hw => ((hI wx hw).cell (i := 1) rfl _).trans hx
          simp only [List.take_succ_cons, List.take_zero, List.drop_succ_cons, List.drop_zero]
          iterate 8
            (refine Inv.wpInv_step (fun K hK => ?_); go_simp; apply inv_run; · (intro wx hw; have q1 := q wx hw; go_simp; (try go_ints); (try go_simp); (try (rw [if_pos (by omega)])); (try go_simp); (first | done | rfl))
             refine hK _ ?_; clear hK K)
          clear q hI hI' hx
          refine Inv.wpInv_nil ?_
          intro w4 st4
          clear st3
          refine wpList_storeC st4 rfl 5 _ _ rfl 1 b1 k.toNat rfl _ rfl _ _ rfl sizeByte rfl (by rw [kv_size, hcl.out]; omega) rfl _ Hset.out _ rfl ?_
          intro w5 st5
          clear st4 Hset
          simp only [List.set_cons_succ, List.set_cons_zero] at st5
          go_wp2
          go_roundw
          case rel => exact ⟨k + 1, by omega, by omega, rfl, Hnxt.out ▸ st5⟩
          case measure => simp [intOf]; omega
        · have HM : Hid (min (max (n - 8 * k) 0) 8 = M) := by unfold Hid; rw [← Hm.out]; unfold keptI; rw [if_neg hneg, if_neg hbig]
          go_wp2
          rw [HM.out]
          refine region_inv 8 st3 mixed (by kernel_rfl) ?_
          intro I hI hI'
          have q : ∀ wx, I wx → wx.cell? ⟨b1, k.toNat, none⟩ = some (.int .u8 X) := fun wx hw => ((hI wx hw).cell (i := 1) rfl _).trans hx
          simp only [List.take_succ_cons, List.take_zero, List.drop_succ_cons, List.drop_zero]
          iterate 8
            (refine Inv.wpInv_step (fun K hK => ?_); go_simp; apply inv_run; · (intro wx hw; have q1 := q wx hw; go_simp; (try go_ints); (try go_simp); (try (rw [if_pos (by omega)])); (try go_simp); (first | done | rfl))
             refine hK _ ?_; clear hK K)
          clear q hI hI' hx
          refine Inv.wpInv_nil ?_
          intro w4 st4
          clear st3
          refine wpList_storeC st4 rfl 5 _ _ rfl 1 b1 k.toNat rfl _ rfl _ _ rfl sizeByte rfl (by rw [kv_size, hcl.out]; omega) rfl _ Hset.out _ rfl ?_
          intro w5 st5
          clear st4 Hset
          simp only [List.set_cons_succ, List.set_cons_zero] at st5
          go_wp2
          go_roundw
          case rel => exact ⟨k + 1, by omega, by omega, rfl, Hnxt.out ▸ st5⟩
          case measure => simp [intOf]; omega
    · have e : Hid (curP l (clampN n) k.toNat = preC l (clampN n)) := by
        unfold Hid
        rw [show k.toNat = 32 by omega, curP_end]
      rw [e.out] at st3
      have hl2 : Hid ((preC l (clampN n)).length = 32) := (HK.out.pre _).len
      clear e
      go_wp2_with (first | (refine wpList_loadR rfl 23 _ rfl b1 rfl _ aggKey rfl _ _ (st3.at (i := 1) rfl) (sizeKv hl2.out) ?_) | (refine wpList_storeR st3 rfl 23 _ _ rfl 0 b2 rfl _ rfl _ _ rfl (sizeKv hl2.out) (by show (kv (preC l (clampN n))).size = _; rw [kv_size, hl2.out, kv_size]; rfl) (kv_one _) _ rfl ?_; intro w6 st6; clear st3))
      exact ret_row rfl b2 _ _ _ rfl (st6.at (i := 0) rfl) aggKey rfl (sizeKv hl2.out) rfl ⟨rfl, st6.below⟩

end Go.Proofs.Ytdkkklhpfflpkaa
