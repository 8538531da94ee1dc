/- The walk of BitmapLists. -/
import Derived.Test.YtdkkklhpfflpkaaBmLaws
import Derived.Test.YtdkkklhpfflpkaaMix
open Go Go.RowKit
namespace Go.Proofs.Ytdkkklhpfflpkaa
attribute [local irreducible] Inv.wpInv Mix.wpUp

theorem Up.rd {I : World → Prop} (h : Mix.Up I) (v : Value) (l : List Int) : Mix.Up (fun w => I w ∧ Rd w v l) := fun w w' hi hb => ⟨h w w' hi.1 hb, hi.2.call hb⟩

theorem ofL_set {b : List Nat} (hk : Key b) : ofL zero32 (setI b) = b :=
  key_ext (Key.ofL _ key_zero) hk fun j hj => by
    rw [ofL_bit j hj _ _ key_zero, zero_bit]
    have h2 := bitN_lt b j
    have e : ((j : Int) ∈ setI b) ↔ bitN b j = 1 := by
      unfold setI setB
      simp only [List.mem_map, List.mem_filter, List.mem_range, beq_iff_eq]
      constructor
      · rintro ⟨n, ⟨_, h⟩, hn⟩
        obtain rfl : n = j := by omega
        exact h
      · intro h
        exact ⟨j, ⟨hj, h⟩, rfl⟩
    by_cases h : bitN b j = 1
    · rw [if_pos (e.2 h), h]
    · rw [if_neg (fun h' => h (e.1 h'))]; omega

set_option maxHeartbeats 4000000 in
theorem BitmapLists_walk (w : World) (b : List Nat) (hk : Key b) :
    Calls Try.prog 12 #[.agg (kv b)] w fun e w' => e = .returned (.bool true) ∧ Below w.heap.size w w' := by
  have HK := Lib.hid hk
  have hlen : Hid (b.length = 32) := hk.len
  clear hk
  have st := St.init w
  go_enter Try.func12, Try.ntmps12
  go_wp2_with (first | (refine wpList_boxA (by assumption) rfl 34 _ rfl _ rfl ?_; intro b1 w1 st1; clear st))
  go_loopw [3, 4, 6] (fun out las i wr => ∃ k L : Int, 0 ≤ k ∧ k ≤ 256 ∧ i = .int .i64 k ∧ las = .int .i64 L ∧ Hid (L = lastUpto b k.toNat) ∧ St w.heap.size w [(b1, kv b, 34)] wr ∧ wr.ownsRow (b1 + 1) 3 1 out (setK b k.toNat).length (icells (setK b k.toNat))) (fun _ _ i _ => (256 - intOf i).toNat)
  case atStart => exact ⟨0, -1, by omega, by omega, rfl, rfl, rfl, st1, World.ownsRow_nil _ _ _ _⟩
  case round =>
    obtain ⟨k, L, k0, k1, rfl, rfl, HL, st3, hown⟩ := hrel
    clear st1
    have Hown := Lib.hid hown
    clear hown
    have hbase : b1 + 1 ≤ wr.heap.size := heap_lt (st3.at (i := 0) rfl)
    have Hbase := Lib.hid hbase
    clear hbase
    have hab := st3.above (i := 0) rfl
    have Hab := Lib.hid hab
    clear hab
    by_cases hlt : k < 256
    · have hsl := setK_len b k.toNat
      have Hsl := Lib.hid hsl
      clear hsl
      have hls : lastUpto b (k + 1).toNat = if bitN b k.toNat = 1 then k else lastUpto b k.toNat := by
        rw [show (k + 1).toNat = k.toNat + 1 by omega]
        show (if bitN b k.toNat = 1 then ((k.toNat : Nat) : Int) else lastUpto b k.toNat) = _
        rw [show ((k.toNat : Nat) : Int) = k by omega]
      by_cases hb : bitN b k.toNat = 1
      · rw [if_pos hb] at hls
        have Hls := Lib.hid hls
        clear hls
        have hR := RefBit_calls b HK.out k
        rw [bitI_lt ⟨k0, hlt⟩, hb] at hR
        have HR := Lib.hid hR
        have hnext := setK_yes b k.toNat hb
        rw [show ((k.toNat : Nat) : Int) = k by omega, show k.toNat + 1 = (k + 1).toNat by omega] at hnext
        have Hnext := Lib.hid hnext
        clear hnext hb hR
        go_wp2_with (first | (refine wpList_loadR rfl 34 _ rfl b1 rfl _ aggBm rfl _ _ (St.at (by assumption) (i := 0) rfl) (sizeBm hlen.out) ?_) | (go_at_call 17; refine (HR.out _).mono ?_; rintro e w4 ⟨rfl, hbel⟩; have st4 := st3.call hbel; have hown4 := Lib.hid (own_call Hown.out hbel); have hb4 := Lib.hid (Nat.le_trans Hbase.out hbel.size); clear st3 Hown Hbase hbel) | (refine wpList_buildSlice st4 rfl 30 1 _ rfl 3 sliceInt _ 1 zeroInt sizeInt (by decide) (by decide) [(0, .int .i64 k)] ?_ _ (fill1 k) ?_; · (simp [Act.eval]; done)))
        intro b5 w5 st5 hb5
        have hown5 := Lib.hid (own_call hown4.out hb5)
        have hbase5 := Lib.hid (Nat.le_trans hb4.out hb5.size)
        refine wpList_appendOwn (base := b1 + 1) st5.drop (fun p hp => by simp at hp; subst hp; exact Nat.lt_succ_self _) (by have := Hab.out; omega) rfl _ _ 30 rfl 3 _ 1 8 sliceInt zeroInt sizeInt bytesInt rfl (by decide) _ _ _ rfl hown5.out b5 1 1 (iv [k]) 3 rfl rfl (st5.at (i := 0) rfl) (iv_one _) ?_ ?_ hbase5.out ?_
        · have := Hsl.out; unfold maxLen; omega
        · have := Hsl.out; omega
        intro v' w6 st6 hown6 _ _
        clear hown4 hown5 hb4 hbase5 st4 st5 hb5
        have e1 : (setK b k.toNat).length + 1 = (setK b (k + 1).toNat).length := by rw [Hnext.out, List.length_append]; rfl
        have e2 : icells (setK b k.toNat) ++ (iv [k]).toList = icells (setK b (k + 1).toNat) := by rw [Hnext.out, icells_app]; rfl
        rw [e1, e2] at hown6
        have Hown6 := Lib.hid hown6
        clear hown6 e1 e2 HL
        go_wp2
        go_roundw
        case rel => exact ⟨k + 1, k, by omega, by omega, rfl, rfl, Hls.out.symm, st6, Hown6.out⟩
        case measure => simp [intOf]; omega
      · rw [if_neg hb] at hls
        have Hls := Lib.hid hls
        clear hls
        have h0 : bitN b k.toNat = 0 := by have := bitN_lt b k.toNat; omega
        have hR := RefBit_calls b HK.out k
        rw [bitI_lt ⟨k0, hlt⟩, h0] at hR
        have HR := Lib.hid hR
        have hnext := setK_no b k.toNat hb
        rw [show k.toNat + 1 = (k + 1).toNat by omega] at hnext
        have Hnext := Lib.hid hnext
        clear hnext hb hR h0
        go_wp2_with (first | (refine wpList_loadR rfl 34 _ rfl b1 rfl _ aggBm rfl _ _ (St.at (by assumption) (i := 0) rfl) (sizeBm hlen.out) ?_) | (go_at_call 17; refine (HR.out _).mono ?_; rintro e w4 ⟨rfl, hbel⟩; have st4 := st3.call hbel; have hown4 := Lib.hid (own_call Hown.out hbel); clear st3 Hown Hbase hbel))
        go_roundw
        case rel => exact ⟨k + 1, L, by omega, by omega, rfl, rfl, by rw [Hls.out]; exact HL.out, st4, by rw [Hnext.out]; exact hown4.out⟩
        case measure => simp [intOf]; omega
    · have e : k.toNat = 256 := by omega
      have h1 := Hown.out
      rw [e, setK_all] at h1
      rw [e] at HL
      have hsl : (setI b).length ≤ 256 := setK_len b 256
      have hrd : Rd wr u3 (setI b) := Rd.of_own rfl h1 (by unfold maxLen; omega)
      obtain ⟨a3, cap3, rfl, _⟩ := hrd.open
      have Hrd := Lib.hid hrd
      have HA := alive14H
      have K1 := Lib.hid (List_calls b HK.out)
      have k3 := Len_calls b HK.out
      rw [show lenN b = (setI b).length by rw [lenN_eq HK.out]; unfold setI; rw [List.length_map]] at k3
      have K3 := Lib.hid k3
      have k4 := Last_calls b HK.out
      rw [show lastI b = L from HL.out.symm] at k4
      have K4 := Lib.hid k4
      have K2 : Hid (∀ (v : Value) (wx : World), Rd wx v (setI b) → Rd wx (.slice a3 (setI b).length cap3) (setI b) → Calls Try.prog 34 #[v, .slice a3 (setI b).length cap3] wx fun e w' => e = .returned (.bool true) ∧ Below wx.heap.size wx w') := fun v wx h1 h2 => by
        have h := Same_calls (setI b) (setI b) v _ wx h1 h2
        simpa using h
      have K6 : Hid (∀ (v : Value) (wx : World), Rd wx v (setI b) → Calls Try.prog 28 #[v] wx fun e w' => e = .returned (.agg (kv b)) ∧ Below wx.heap.size wx w') := fun v wx h1 => by
        have h := Of_calls (setI b) v wx h1
        rw [ofL_set HK.out] at h
        exact h
      have hg := guardBm
      have HqB : Hid (∀ wx : World, (Op.equalIn 10000 34 (.agg (kv b)) (.agg (kv b))).run Try.prog wx = .ok true wx) := fun w => by rw [eqlBm _ _ hlen.out hlen.out w]; simp
      clear h1 Hown e hrd k3 k4 HL Hbase Hab
      generalize setI b = l at *
      go_wp2
      refine Mix.wp_region_mix 28 (fun wx => St w.heap.size w [(b1, kv b, 34)] wx ∧ Rd wx (.slice a3 l.length cap3) l) mixed (by kernel_rfl) ⟨st3.drew, Hrd.out.call (Below.refl _ _).drew⟩ ?_
      intro F inv
      have up0 := Up.rd (St.up (B := w.heap.size) (w0 := w) (L := [(b1, kv b, 34)])) (.slice a3 l.length cap3) l
      refine Mix.good_batch (f := 24) F up0 [0, 1, 2, 4] _ _ inv (by kernel_rfl) ?_
      clear inv
      (refine Mix.wpUp_cons rfl (fun K hK => ?_); go_simp; refine up_call 27 _ ?_ (fun wx stx => HA.out wx) ?_; · (intro wx hw; go_simp)
       refine hK _ ?_; clear hK K)
      iterate 1
        (refine Mix.wpUp_cons rfl (fun K hK => ?_); go_simp; apply up_run; · (intro wx hw; go_simp; (try go_ints); (try go_simp); (try (rw [if_pos (by omega)])); (try go_simp); (first | done | rfl))
         refine hK _ ?_; clear hK K)
      (refine Mix.wpUp_cons rfl (fun K hK => ?_); go_simp; refine up_loadR 34 _ rfl b1 rfl _ aggBm rfl _ _ (fun wx hw => hw.1.at (i := 0) rfl) (sizeBm hlen.out) ?_
       refine hK _ ?_; clear hK K)
      iterate 1
        (refine Mix.wpUp_cons rfl (fun K hK => ?_); go_simp; apply up_run; · (intro wx hw; go_simp; (try go_ints); (try go_simp); (try (rw [if_pos (by omega)])); (try go_simp); (first | done | rfl))
         refine hK _ ?_; clear hK K)
      refine Mix.wpUp_nil ?_
      intro inv
      refine Mix.good_one (i := 3) (by kernel_rfl) inv (fun w5 h5 => ?_)
      clear inv
      refine mxOp_call rfl rfl 35 #[.agg (kv b)] (by go_simp) ?_
      refine (K1.out _).mono ?_
      rintro e w6 ⟨v, rfl, hrd, hbel, _⟩
      refine ⟨v, rfl, _, Up.rd up0 v l, ⟨up0 _ _ h5 hbel, hrd⟩, fun _ h => h.1, fun inv => ?_⟩
      clear h5 hbel hrd
      have up1 := Up.rd up0 v l
      refine Mix.good_batch (f := 5) F up1 [5, 6, 7, 8, 9, 10, 11, 12, 13, 14, 15, 16, 17, 18, 19, 20, 21, 24] _ _ inv (by kernel_rfl) ?_
      clear inv
      (refine Mix.wpUp_cons rfl (fun K hK => ?_); go_simp; refine up_call 34 _ ?_ (fun wx stx => K2.out _ wx stx.2 stx.1.2) ?_; · (intro wx hw; go_simp)
       refine hK _ ?_; clear hK K)
      iterate 2
        (refine Mix.wpUp_cons rfl (fun K hK => ?_); go_simp; apply up_run; · (intro wx hw; go_simp; (try go_ints); (try go_simp); (try (rw [if_pos (by omega)])); (try go_simp); (first | done | rfl))
         refine hK _ ?_; clear hK K)
      (refine Mix.wpUp_cons rfl (fun K hK => ?_); go_simp; refine up_loadR 34 _ rfl b1 rfl _ aggBm rfl _ _ (fun wx hw => hw.1.1.at (i := 0) rfl) (sizeBm hlen.out) ?_
       refine hK _ ?_; clear hK K)
      (refine Mix.wpUp_cons rfl (fun K hK => ?_); go_simp; refine up_call 33 _ ?_ (fun wx stx => K3.out wx) ?_; · (intro wx hw; go_simp)
       refine hK _ ?_; clear hK K)
      iterate 5
        (refine Mix.wpUp_cons rfl (fun K hK => ?_); go_simp; apply up_run; · (intro wx hw; go_simp; (try go_ints); (try go_simp); (try (rw [if_pos (by omega)])); (try go_simp); (first | done | rfl))
         refine hK _ ?_; clear hK K)
      (refine Mix.wpUp_cons rfl (fun K hK => ?_); go_simp; refine up_loadR 34 _ rfl b1 rfl _ aggBm rfl _ _ (fun wx hw => hw.1.1.at (i := 0) rfl) (sizeBm hlen.out) ?_
       refine hK _ ?_; clear hK K)
      (refine Mix.wpUp_cons rfl (fun K hK => ?_); go_simp; refine up_call 36 _ ?_ (fun wx stx => K4.out wx) ?_; · (intro wx hw; go_simp)
       refine hK _ ?_; clear hK K)
      iterate 4
        (refine Mix.wpUp_cons rfl (fun K hK => ?_); go_simp; apply up_run; · (intro wx hw; go_simp; (try go_ints); (try go_simp); (try (rw [if_pos (by omega)])); (try go_simp); (first | done | rfl))
         refine hK _ ?_; clear hK K)
      (refine Mix.wpUp_cons rfl (fun K hK => ?_); go_simp; refine up_loadR 34 _ rfl b1 rfl _ aggBm rfl _ _ (fun wx hw => hw.1.1.at (i := 0) rfl) (sizeBm hlen.out) ?_
       refine hK _ ?_; clear hK K)
      (refine Mix.wpUp_cons rfl (fun K hK => ?_); go_simp; refine up_loadR 34 _ rfl b1 rfl _ aggBm rfl _ _ (fun wx hw => hw.1.1.at (i := 0) rfl) (sizeBm hlen.out) ?_
       refine hK _ ?_; clear hK K)
      refine Mix.wpUp_nil ?_
      intro inv
      refine Mix.good_one (i := 22) (by kernel_rfl) inv (fun w7 h7 => ?_)
      clear inv
      refine mxOp_call rfl rfl 35 #[.agg (kv b)] (by go_simp) ?_
      refine (K1.out _).mono ?_
      rintro e w8 ⟨v', rfl, hrd, hbel, _⟩
      refine ⟨v', rfl, _, Up.rd up1 v' l, ⟨up1 _ _ h7 hbel, hrd⟩, fun _ h => h.1, fun inv => ?_⟩
      clear h7 hbel hrd
      have up2 := Up.rd up1 v' l
      refine Mix.good_batch (f := 0) F up2 [23, 25, 26, 27] _ _ inv (by kernel_rfl) ?_
      clear inv
      (refine Mix.wpUp_cons rfl (fun K hK => ?_); go_simp; refine up_call 28 _ ?_ (fun wx stx => K6.out _ wx stx.2) ?_; · (intro wx hw; go_simp)
       refine hK _ ?_; clear hK K)
      iterate 3
        (refine Mix.wpUp_cons rfl (fun K hK => ?_); go_simp; apply up_run; · (intro wx hw; have q1 := (fun (x : World) (_ : _) => HqB.out x) wx hw; go_simp; (try go_ints); (try go_simp); (try (rw [if_pos (by omega)])); (try go_simp); (first | done | rfl))
         refine hK _ ?_; clear hK K)
      refine Mix.wpUp_nil ?_
      intro inv
      clear inv F
      refine ⟨by kernel_rfl, fun w9 h9 => ?_⟩
      have st9 := h9.1.1.1
      clear h9 up0 up1 up2
      simp only [List.drop_succ_cons, List.drop_nil]
      go_wp2
      go_ret
      exact ⟨rfl, st9.below⟩

end Go.Proofs.Ytdkkklhpfflpkaa
