/- Contracts of package bitmap: fold, Of, Last. -/
import Derived.Test.YtdkkklhpfflpkaaSlices
open Go Go.RowKit
namespace Go.Proofs.Ytdkkklhpfflpkaa

set_option maxHeartbeats 1000000 in
theorem fold_calls (b : List Nat) (hk : Key b) (l : List Int) (v : Value) (w : World) (hv : Rd w v l) :
    Calls Try.prog 41 #[.agg (kv b), .func (.func 31) #[] #[], v] w fun e w' => e = .returned (.agg (kv (ofL b l))) ∧ Below w.heap.size w w' := by
  have HK := Lib.hid hk
  have hlen : Hid (b.length = 32) := hk.len
  have hlz : Hid (zero32.length = 32) := key_zero.len
  clear hk
  have st := St.init w
  rcases hv.2 with ⟨rfl, a, cap, rfl⟩ | ⟨bl, off, cap, rfl, hcells⟩
  · clear hv
    go_enter Try.func41, Try.ntmps41
    go_wp2_with (first | (refine wpList_boxA (by assumption) rfl 34 _ rfl _ rfl ?_; intro b1 w1 st1; clear st) | (refine wpList_newA (by assumption) rfl 34 rfl _ zeroBm ?_; intro b2 w2 st2; clear st1))
    refine wp_loop_rounds 1 ?_
    rw [rounds_succ]
    go_wp2_with (first | (refine wpList_loadR rfl 34 _ rfl b1 rfl _ aggBm rfl _ _ (St.at (by assumption) (i := 1) rfl) (sizeBm hlen.out) ?_) | (refine wpList_storeR (by assumption) rfl 34 _ _ rfl 0 b2 rfl _ rfl _ _ rfl (sizeBm hlen.out) (by show (kv b).size = _; rw [kv_size, hlen.out, kv_size, hlz.out]) (kv_one _) _ rfl ?_; intro w6 st6))
    exact ret_row rfl b2 _ _ _ rfl (st6.at (i := 0) rfl) aggBm rfl (sizeBm hlen.out) rfl ⟨rfl, st6.below⟩
  · have hm := hv.1
    unfold maxLen at hm
    have Hcells : Hid (∀ w' : World, Below w.heap.size w w' → ∀ k : Int, 0 ≤ k → k < l.length → w'.cell? ⟨bl, off + k.toNat, none⟩ = some (.int .i64 (l.getD k.toNat 0))) := fun w' hb k k0 k1 => by
      rw [hb.cell (block_lt_cell (hcells k.toNat (by omega)))]
      exact hcells k.toNat (by omega)
    clear hv hcells
    go_enter Try.func41, Try.ntmps41
    go_wp2_with (first | (refine wpList_boxA (by assumption) rfl 34 _ rfl _ rfl ?_; intro b1 w1 st1; clear st) | (refine wpList_newA (by assumption) rfl 34 rfl _ zeroBm ?_; intro b2 w2 st2; clear st1))
    go_loopw [11] (fun i wr => ∃ k : Int, 0 ≤ k ∧ k ≤ (l.length : Int) ∧ i = .int .i64 k ∧ St w.heap.size w [(b2, kv zero32, 34), (b1, kv (ofL b (l.take k.toNat)), 34)] wr) (fun i _ => ((l.length : Int) - intOf i).toNat)
    case atStart => exact ⟨0, by omega, by omega, rfl, st2⟩
    case round =>
      obtain ⟨k, k0, k1, rfl, st3⟩ := hrel
      clear st2
      have hkey : Hid (Key (ofL b (l.take k.toNat))) := Key.ofL _ HK.out
      by_cases hlt : k < (l.length : Int)
      · have hc := Hcells.out wr st3.below k k0 hlt
        have HW := Lib.hid (With_calls (ofL b (l.take k.toNat)) hkey.out (l.getD k.toNat 0))
        have hnext : orI (ofL b (l.take k.toNat)) (l.getD k.toNat 0) = ofL b (l.take (k + 1).toNat) := by
          rw [show (k + 1).toNat = k.toNat + 1 by omega, List.take_succ_eq_append_getElem (by omega)]
          unfold ofL
          rw [List.foldl_append]
          simp only [List.foldl_cons, List.foldl_nil]
          congr 1
          rw [List.getD_eq_getElem?_getD, List.getElem?_eq_getElem (by omega)]; rfl
        rw [hnext] at HW
        have hl1 : Hid ((ofL b (l.take k.toNat)).length = 32) := hkey.out.len
        have hl2 : Hid ((ofL b (l.take (k + 1).toNat)).length = 32) := (Key.ofL _ HK.out).len
        clear hnext hkey
        generalize ofL b (l.take k.toNat) = C at *
        generalize hD : ofL b (l.take (k + 1).toNat) = D at *
        have HD := Lib.hid hD
        clear hD
        generalize l.getD k.toNat 0 = X at *
        go_wp2_with (first | (refine wpList_loadR rfl 34 _ rfl b1 rfl _ aggBm rfl _ _ (St.at (by assumption) (i := 1) rfl) (sizeBm hl1.out) ?_) | (go_at_call 31; refine (HW.out _).mono ?_; rintro e wn ⟨rfl, hbel⟩; have stn := St.call (by assumption) hbel; clear hbel) | (refine wpList_storeR (by assumption) rfl 34 _ _ rfl 1 b1 rfl _ rfl _ _ rfl (sizeBm hl2.out) (by show (kv D).size = _; rw [kv_size, hl2.out, kv_size, hl1.out]) (kv_one _) _ rfl ?_; intro w6 st6))
        simp only [List.set_cons_succ, List.set_cons_zero] at st6
        go_roundw
        case rel => exact ⟨k + 1, by omega, by omega, rfl, by rw [HD.out]; exact st6⟩
        case measure => simp [intOf]; omega
      · have e : l.take k.toNat = l := List.take_of_length_le (by omega)
        rw [e] at st3 hkey
        have hl1 : Hid ((ofL b l).length = 32) := hkey.out.len
        clear e hkey
        go_wp2_with (first | (refine wpList_loadR rfl 34 _ rfl b1 rfl _ aggBm rfl _ _ (St.at (by assumption) (i := 1) rfl) (sizeBm hl1.out) ?_) | (refine wpList_storeR (by assumption) rfl 34 _ _ rfl 0 b2 rfl _ rfl _ _ rfl (sizeBm hl1.out) (by show (kv (ofL b l)).size = _; rw [kv_size, hl1.out, kv_size, hlz.out]) (kv_one _) _ rfl ?_; intro w6 st6))
        exact ret_row rfl b2 _ _ _ rfl (st6.at (i := 0) rfl) aggBm rfl (sizeBm hl1.out) rfl ⟨rfl, st6.below⟩

theorem builtBm0 : Try.prog.built 34 [] = some (kv zero32) := by kernel_rfl
theorem builtKey0 : Try.prog.built 23 [] = some (kv zero32) := by kernel_rfl

theorem Of_calls (l : List Int) (v : Value) (w : World) (hv : Rd w v l) :
    Calls Try.prog 28 #[v] w fun e w' => e = .returned (.agg (kv (ofL zero32 l))) ∧ Below w.heap.size w w' := by
  have hl1 : Hid ((ofL zero32 l).length = 32) := (Key.ofL l key_zero).len
  have hlz : Hid (zero32.length = 32) := key_zero.len
  have HF : Hid (∀ wx : World, Below w.heap.size w wx → Calls Try.prog 41 #[.agg (kv zero32), .func (.func 31) #[] #[], v] wx fun e w' => e = .returned (.agg (kv (ofL zero32 l))) ∧ Below wx.heap.size wx w') := fun wx hb => fold_calls zero32 key_zero l v wx (hv.call hb)
  clear hv
  have st := St.init w
  go_enter Try.func28, Try.ntmps28
  go_wp2_with (first | (refine wpList_newA (by assumption) rfl 34 rfl _ zeroBm ?_; intro b2 w2 st2; clear st) | (refine wpList_build rfl 34 _ rfl [] ?_ _ builtBm0 ?_; · (simp; done)) | (go_at_call 41; refine (HF.out _ st2.below).mono ?_; rintro e wn ⟨rfl, hbel⟩; have stn := St.call (by assumption) hbel; clear hbel) | (refine wpList_storeR (by assumption) rfl 34 _ _ rfl 0 b2 rfl _ rfl _ _ rfl (sizeBm hl1.out) (by show (kv (ofL zero32 l)).size = _; rw [kv_size, hl1.out, kv_size, hlz.out]) (kv_one _) _ rfl ?_; intro w6 st6))
  exact ret_row rfl b2 _ _ _ rfl (st6.at (i := 0) rfl) aggBm rfl (sizeBm hl1.out) rfl ⟨rfl, st6.below⟩

end Go.Proofs.Ytdkkklhpfflpkaa
