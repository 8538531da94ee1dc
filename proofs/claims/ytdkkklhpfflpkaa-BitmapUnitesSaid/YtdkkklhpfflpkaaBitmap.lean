/- Contracts of package bitmap: Has, With, Without, Len. -/
import Derived.Test.YtdkkklhpfflpkaaBmPlain
import Derived.Test.YtdkkklhpfflpkaaCommon
open Go Go.RowKit
namespace Go.Proofs.Ytdkkklhpfflpkaa

theorem zeroBm : (Try.prog.info? 34).bind (·.zero) = some (.agg (kv zero32)) := by kernel_rfl
theorem sizeBm0 : (Try.prog.info? 34).map (·.size) = some 32 := by kernel_rfl
theorem aggBm : Try.prog.underlying 34 = some (.array 32 5) := by kernel_rfl
theorem sizeBm {l : List Nat} (h : l.length = 32) : (Try.prog.info? 34).map (·.size) = some (kv l).size := by rw [kv_size, h]; exact sizeBm0
theorem guardBm : Try.prog.eqGuardType Try.prog.depth 34 = false := by kernel_rfl
theorem eqlBm (a b : List Nat) (la : a.length = 32) (lb : b.length = 32) (w : World) :
    (Op.equalIn 10000 34 (.agg (kv a)) (.agg (kv b))).run Try.prog w = .ok (decide (a = b)) w :=
  run_equalIn_bytes w 9998 34 5 32 aggBm byteT sizeByte a b la lb

theorem Has_calls (b : List Nat) (hk : Key b) (i : Int) (w : World) :
    Calls Try.prog 30 #[.agg (kv b), .int .i64 i] w fun e w' => e = .returned (.bool (bitI b i == 1)) ∧ Below w.heap.size w w' := by
  have hlen : Hid (b.length = 32) := hk.len
  have H1 := Lib.hid (Bit_calls b hk i)
  clear hk
  generalize bitI b i = X at *
  have st := St.init w
  go_enter Try.func30, Try.ntmps30
  go_wp2_with (first | (refine wpList_boxA (by assumption) rfl 34 _ rfl _ rfl ?_; intro b1 w1 st1; clear st) | (refine wpList_loadR rfl 34 _ rfl b1 rfl _ aggBm rfl _ _ (St.at (by assumption) (i := 0) rfl) (sizeBm hlen.out) ?_) | (go_at_call 16; refine (H1.out _).mono ?_; rintro e wn ⟨rfl, hbel⟩; have stn := St.call (by assumption) hbel; clear hbel))
  go_ret
  exact ⟨rfl, stn.below⟩

theorem HasT (b : List Nat) (hk : Key b) (i : Int) (v : Bool) (hv : (bitI b i == 1) = v) (w : World) :
    Calls Try.prog 30 #[.agg (kv b), .int .i64 i] w fun e w' => e = .returned (.bool v) ∧ Below w.heap.size w w' := by
  have h := Has_calls b hk i w
  rw [hv] at h
  exact h

theorem With_calls (b : List Nat) (hk : Key b) (i : Int) (w : World) :
    Calls Try.prog 31 #[.agg (kv b), .int .i64 i] w fun e w' => e = .returned (.agg (kv (orI b i))) ∧ Below w.heap.size w w' := by
  have hlen : Hid (b.length = 32) := hk.len
  have hlen2 : Hid ((flipI b i).length = 32) := by unfold Hid flipI; split; rw [flipN_len]; exact hk.len; exact hk.len
  have hlen3 : Hid (zero32.length = 32) := key_zero.len
  have H2 := Lib.hid (Flip_calls b hk i)
  have st := St.init w
  unfold orI
  by_cases h : bitI b i = 1
  · rw [if_pos h]
    have H1 := Lib.hid (HasT b hk i true (by rw [h]; rfl))
    clear hk h
    go_enter Try.func31, Try.ntmps31
    go_wp2_with (first | (refine wpList_boxA (by assumption) rfl 34 _ rfl _ rfl ?_; intro b1 w1 st1; clear st) | (refine wpList_newA (by assumption) rfl 34 rfl _ zeroBm ?_; intro b2 w2 st2; clear st1) | (refine wpList_loadR rfl 34 _ rfl b1 rfl _ aggBm rfl _ _ (St.at (by assumption) (i := 1) rfl) (sizeBm hlen.out) ?_) | (go_at_call 30; refine (H1.out _).mono ?_; rintro e wn ⟨rfl, hbel⟩; have stn := St.call (by assumption) hbel; clear hbel) | (refine wpList_storeR (by assumption) rfl 34 _ _ rfl 0 b2 rfl _ rfl _ _ rfl (sizeBm hlen.out) (by show (kv b).size = _; rw [kv_size, hlen.out, kv_size, hlen3.out]) (kv_one _) _ rfl ?_; intro w6 st6))
    exact ret_row rfl b2 _ _ _ rfl (st6.at (i := 0) rfl) aggBm rfl (sizeBm hlen.out) rfl ⟨rfl, st6.below⟩
  · rw [if_neg h]
    have H1 := Lib.hid (HasT b hk i false (by simpa using h))
    clear hk h
    generalize hF : flipI b i = F at *
    clear hF
    go_enter Try.func31, Try.ntmps31
    go_wp2_with (first | (refine wpList_boxA (by assumption) rfl 34 _ rfl _ rfl ?_; intro b1 w1 st1; clear st) | (refine wpList_newA (by assumption) rfl 34 rfl _ zeroBm ?_; intro b2 w2 st2; clear st1) | (refine wpList_loadR rfl 34 _ rfl b1 rfl _ aggBm rfl _ _ (St.at (by assumption) (i := 1) rfl) (sizeBm hlen.out) ?_) | (go_at_call 30; refine (H1.out _).mono ?_; rintro e wn ⟨rfl, hbel⟩; have stn := St.call (by assumption) hbel; clear hbel) | (go_at_call 18; refine (H2.out _).mono ?_; rintro e wn ⟨rfl, hbel⟩; have stn := St.call (by assumption) hbel; clear hbel) | (refine wpList_storeR (by assumption) rfl 34 _ _ rfl 0 b2 rfl _ rfl _ _ rfl (sizeBm hlen2.out) (by show (kv F).size = _; rw [kv_size, hlen2.out, kv_size, hlen3.out]) (kv_one _) _ rfl ?_; intro w6 st6))
    exact ret_row rfl b2 _ _ _ rfl (st6.at (i := 0) rfl) aggBm rfl (sizeBm hlen2.out) rfl ⟨rfl, st6.below⟩

theorem Without_calls (b : List Nat) (hk : Key b) (i : Int) (w : World) :
    Calls Try.prog 32 #[.agg (kv b), .int .i64 i] w fun e w' => e = .returned (.agg (kv (andI b i))) ∧ Below w.heap.size w w' := by
  have hlen : Hid (b.length = 32) := hk.len
  have hlen2 : Hid ((flipI b i).length = 32) := by unfold Hid flipI; split; rw [flipN_len]; exact hk.len; exact hk.len
  have hlen3 : Hid (zero32.length = 32) := key_zero.len
  have H2 := Lib.hid (Flip_calls b hk i)
  have st := St.init w
  unfold andI
  by_cases h : bitI b i = 1
  · rw [if_pos h]
    have H1 := Lib.hid (HasT b hk i true (by rw [h]; rfl))
    clear hk h
    generalize hF : flipI b i = F at *
    clear hF
    go_enter Try.func32, Try.ntmps32
    go_wp2_with (first | (refine wpList_boxA (by assumption) rfl 34 _ rfl _ rfl ?_; intro b1 w1 st1; clear st) | (refine wpList_newA (by assumption) rfl 34 rfl _ zeroBm ?_; intro b2 w2 st2; clear st1) | (refine wpList_loadR rfl 34 _ rfl b1 rfl _ aggBm rfl _ _ (St.at (by assumption) (i := 1) rfl) (sizeBm hlen.out) ?_) | (go_at_call 30; refine (H1.out _).mono ?_; rintro e wn ⟨rfl, hbel⟩; have stn := St.call (by assumption) hbel; clear hbel) | (go_at_call 18; refine (H2.out _).mono ?_; rintro e wn ⟨rfl, hbel⟩; have stn := St.call (by assumption) hbel; clear hbel) | (refine wpList_storeR (by assumption) rfl 34 _ _ rfl 0 b2 rfl _ rfl _ _ rfl (sizeBm hlen2.out) (by show (kv F).size = _; rw [kv_size, hlen2.out, kv_size, hlen3.out]) (kv_one _) _ rfl ?_; intro w6 st6))
    exact ret_row rfl b2 _ _ _ rfl (st6.at (i := 0) rfl) aggBm rfl (sizeBm hlen2.out) rfl ⟨rfl, st6.below⟩
  · rw [if_neg h]
    have H1 := Lib.hid (HasT b hk i false (by simpa using h))
    clear hk h
    go_enter Try.func32, Try.ntmps32
    go_wp2_with (first | (refine wpList_boxA (by assumption) rfl 34 _ rfl _ rfl ?_; intro b1 w1 st1; clear st) | (refine wpList_newA (by assumption) rfl 34 rfl _ zeroBm ?_; intro b2 w2 st2; clear st1) | (refine wpList_loadR rfl 34 _ rfl b1 rfl _ aggBm rfl _ _ (St.at (by assumption) (i := 1) rfl) (sizeBm hlen.out) ?_) | (go_at_call 30; refine (H1.out _).mono ?_; rintro e wn ⟨rfl, hbel⟩; have stn := St.call (by assumption) hbel; clear hbel) | (refine wpList_storeR (by assumption) rfl 34 _ _ rfl 0 b2 rfl _ rfl _ _ rfl (sizeBm hlen.out) (by show (kv b).size = _; rw [kv_size, hlen.out, kv_size, hlen3.out]) (kv_one _) _ rfl ?_; intro w6 st6))
    exact ret_row rfl b2 _ _ _ rfl (st6.at (i := 0) rfl) aggBm rfl (sizeBm hlen.out) rfl ⟨rfl, st6.below⟩

/-- A byte out of an array that is a value. -/
theorem run_index_byte {P : Program} (w : World) (t e : TypeId) (ht : P.underlying t = some (.array 32 e)) (he : P.underlying e = some (.int .u8)) (hs : (P.info? e).map (·.size) = some 1) (l : List Nat) (hl : l.length = 32) (k : Int) (k0 : 0 ≤ k) (k1 : k < 32) :
    (Instr.index t (.agg (kv l)) (.int .i64 k)).run P w = .ok (.int .u8 (l.getD k.toNat 0 : Nat)) w := by
  cases hq : P.info? e with
  | none => simp [hq] at hs
  | some i =>
    have hz : i.size = 1 := by simpa [hq] using hs
    have hp := run_part_byte (P := P) w e he l k.toNat (by omega)
    simp only [Instr.index, Sem.run_bind, run_underlying ht, Result.andThen_ok, asIntOf, Sem.run_pure]
    simp [sizeOf, typeInfo, hq, hz, k0, k1, hp]

set_option maxHeartbeats 1000000 in
theorem Len_calls (b : List Nat) (hk : Key b) (w : World) :
    Calls Try.prog 33 #[.agg (kv b)] w fun e w' => e = .returned (.int .i64 (lenN b : Nat)) ∧ Below w.heap.size w w' := by
  have hlen : Hid (b.length = 32) := hk.len
  have HK := Lib.hid hk
  clear hk
  have st := St.init w
  go_enter Try.func33, Try.ntmps33
  go_wp2_with (first | (refine wpList_boxA (by assumption) rfl 34 _ rfl _ rfl ?_; intro b1 w1 st1; clear st) | (refine wpList_loadR rfl 34 _ rfl b1 rfl _ aggBm rfl _ _ (St.at (by assumption) (i := 0) rfl) (sizeBm hlen.out) ?_))
  go_loop [3, 7] (fun n i => ∃ k N : Int, 0 ≤ k ∧ k ≤ 32 ∧ 0 ≤ N ∧ N ≤ 8 * k ∧ Hid (N = (((List.range k.toNat).map fun j => Lib.onesCount (b.getD j 0)).sum : Nat)) ∧ n = .int .i64 N ∧ i = .int .i64 k) (fun _ i => (32 - intOf i).toNat)
  case atStart => exact ⟨0, 0, by omega, by omega, by omega, by omega, rfl, rfl, rfl⟩
  case round =>
    obtain ⟨k, N, k0, k1, n0, n1, hN, rfl, rfl⟩ := hrel
    by_cases hlt : k < 32
    · have hidx : ∀ w, (Instr.index 34 (.agg (kv b)) (.int .i64 k)).run Try.prog w = .ok (.int .u8 (b.getD k.toNat 0 : Nat)) w := fun w => run_index_byte w _ _ aggBm byteT sizeByte b hlen.out k k0 hlt
      have hc := HK.out.get k.toNat
      have ho := ones_le _ hc
      have Hones : Hid (∀ wx : World, Calls Try.prog 42 #[.int .u8 (b.getD k.toNat 0 : Nat)] wx fun e w' => e = .returned (.int .i64 (Lib.onesCount (b.getD k.toNat 0) : Nat)) ∧ w' = wx) := fun wx => by
        have := Try.bits_OnesCount8 (b.getD k.toNat 0 : Nat) wx (by omega) (by omega)
        simpa using this
      have HN2 : Hid (N + (Lib.onesCount (b.getD k.toNat 0) : Nat) = (((List.range (k + 1).toNat).map fun j => Lib.onesCount (b.getD j 0)).sum : Nat)) := by
        unfold Hid
        rw [show (k + 1).toNat = k.toNat + 1 by omega, List.range_succ, List.map_append, List.sum_append, hN.out]
        simp
      have o0 : (0 : Int) ≤ (Lib.onesCount (b.getD k.toNat 0) : Nat) := by omega
      have o1 : ((Lib.onesCount (b.getD k.toNat 0) : Nat) : Int) ≤ 8 := by omega
      clear hN hc ho
      generalize ((Lib.onesCount (b.getD k.toNat 0) : Nat) : Int) = O at *
      generalize ((b.getD k.toNat 0 : Nat) : Int) = X at *
      go_wp2_with (go_at_call 42; refine (Hones.out _).mono ?_; rintro e w2 ⟨rfl, rfl⟩)
      go_round
      case rel => exact ⟨k + 1, N + O, by omega, by omega, by omega, by omega, HN2.out, rfl, rfl⟩
      case measure => simp [intOf]; omega
    · have e : Hid (N = (lenN b : Nat)) := by
        unfold Hid lenN
        rw [hN.out, show k.toNat = 32 by omega]
      clear hN
      go_wp2
      go_ret
      exact ⟨ret_int e.out, st1.below⟩

end Go.Proofs.Ytdkkklhpfflpkaa
