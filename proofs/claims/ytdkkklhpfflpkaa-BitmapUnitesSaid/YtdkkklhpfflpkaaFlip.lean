/- Contracts of Flip of package bits. -/
import Derived.Test.YtdkkklhpfflpkaaBits2
open Go Go.RowKit
namespace Go.Proofs.Ytdkkklhpfflpkaa
theorem mixed : Try.prog.follows .mixedOrders = true := by kernel_rfl
theorem zeroKey : (Try.prog.info? 23).bind (·.zero) = some (.agg (kv zero32)) := by kernel_rfl
theorem sizeKey : (Try.prog.info? 23).map (·.size) = some 32 := by kernel_rfl
theorem sizeByte : (Try.prog.info? 5).map (·.size) = some 1 := by kernel_rfl
theorem aggKey : Try.prog.underlying 23 = some (.array 32 5) := by kernel_rfl
theorem sizeKv {l : List Nat} (h : l.length = 32) : (Try.prog.info? 23).map (·.size) = some (kv l).size := by rw [kv_size, h]; exact sizeKey

theorem kv_set (l : List Nat) (j x : Nat) : (kv l).setIfInBounds j (.int .u8 (x : Int)) = kv (l.set j x) := by
  unfold kv
  simp [List.map_set]

/-- The key with bit i inverted. -/
def flipN (l : List Nat) (i : Nat) : List Nat := l.set (i / 8) (l.getD (i / 8) 0 ^^^ valN i)
def flipI (l : List Nat) (i : Int) : List Nat := if 0 ≤ i ∧ i < 256 then flipN l i.toNat else l

theorem xor_u8 (a b : Nat) (ha : a < 256) (hb : b < 256) : bits .xor .u8 (a : Int) (b : Int) = ((a ^^^ b : Nat) : Int) := by
  have ha' : a % 2 ^ IntKind.u8.bits = a := Nat.mod_eq_of_lt ha
  have hb' : b % 2 ^ IntKind.u8.bits = b := Nat.mod_eq_of_lt hb
  have h := Nat.xor_lt_two_pow (n := 8) ha hb
  have h1 : bits .xor .u8 (a : Int) (b : Int) = IntKind.u8.wrap ((a ^^^ b : Nat) : Int) := by
    simp only [bits, BitVec.ofInt_natCast, BitVec.toNat_xor, BitVec.toNat_ofNat, ha', hb']
  rw [h1]
  exact wraps_u8 _ (Int.natCast_nonneg _) (by omega)

theorem kv_one (l : List Nat) : ∀ u ∈ (kv l).toList, u.oneCell' = true := by
  intro u hu
  simp only [kv, List.toList_toArray, List.mem_map] at hu
  obtain ⟨n, _, rfl⟩ := hu
  rfl

set_option maxHeartbeats 400000 in
theorem Flip_in (l : List Nat) (hk : Key l) (i : Int) (h0 : 0 ≤ i) (h1 : i < 256) (w : World) :
    Calls Try.prog 18 #[.agg (kv l), .int .i64 i] w fun e w' => e = .returned (.agg (kv (flipN l i.toNat))) ∧ Below w.heap.size w w' := by
  have hx : (kv l)[(i / 8).toNat]? = some (.int .u8 (l.getD (i / 8).toNat 0 : Nat)) := kv_get l _ (by rw [hk.len]; omega)
  have hc := hk.get (i / 8).toNat
  have hc0 : (0 : Int) ≤ (l.getD (i / 8).toNat 0 : Nat) := by omega
  have hc1 : ((l.getD (i / 8).toNat 0 : Nat) : Int) < 256 := by omega
  have He : Hid ((kv l).setIfInBounds (i / 8).toNat (.int .u8 (bits .xor .u8 ((l.getD (i / 8).toNat 0 : Nat) : Int) (2 ^ (7 - i % 8).toNat % 256))) = kv (flipN l i.toNat)) := by
    have hv := valN_le i.toNat
    have e1 : (2 ^ (7 - i % 8).toNat % 256 : Int) = ((valN i.toNat : Nat) : Int) := by
      have : (7 - i % 8).toNat = 7 - i.toNat % 8 := by omega
      rw [this]
      have h2 : (2 : Int) ^ (7 - i.toNat % 8) = ((valN i.toNat : Nat) : Int) := by unfold valN; rw [Int.natCast_pow]; rfl
      rw [h2]
      omega
    unfold Hid
    rw [e1, xor_u8 _ _ hc (by omega), kv_set]
    unfold flipN
    rw [show (i / 8).toNat = i.toNat / 8 by omega]
  have hlen : Hid (l.length = 32) := hk.len
  have hlen2 : Hid ((flipN l i.toNat).length = 32) := by unfold Hid flipN; rw [List.length_set]; exact hk.len
  clear hc hk
  generalize ((l.getD (i / 8).toNat 0 : Nat) : Int) = z at *
  generalize flipN l i.toNat = l' at *
  have st := St.init w
  go_enter Try.func18, Try.ntmps18
  go_wp2_with (first | (refine wpList_boxA (by assumption) rfl 23 _ rfl _ rfl ?_; intro b1 w1 st1; clear st) | (refine wpList_newA (by assumption) rfl 23 rfl _ zeroKey ?_; intro b2 w2 st2; clear st1))
  refine region_inv 10 st2 mixed (by kernel_rfl) ?_
  intro I hI hI'
  have q : ∀ wx, I wx → wx.cell? ⟨b1, (i/8).toNat, none⟩ = some (.int .u8 z) := fun wx hw => ((hI wx hw).cell (i := 1) rfl _).trans hx
  simp only [List.take_succ_cons, List.take_zero, List.drop_succ_cons, List.drop_zero]
  iterate 10
    (refine Inv.wpInv_step (fun K hK => ?_); go_simp; apply inv_run; · (intro wx hw; have q1 := q wx hw; go_simp; (try go_ints); (try go_simp); (try (rw [if_pos (by omega)])); (try go_simp); (first | done | rfl))
     refine hK _ ?_; clear hK K)
  clear q hI hI'
  refine Inv.wpInv_nil ?_
  intro w3 st3
  clear st2
  refine wpList_storeC st3 rfl 5 _ _ rfl 1 b1 (i/8).toNat rfl _ rfl _ _ rfl sizeByte rfl (by rw [kv_size, hlen.out]; omega) rfl _ He.out _ rfl ?_
  intro w4 st4
  clear st3
  simp only [List.set_cons_succ, List.set_cons_zero] at st4
  clear He hx
  go_wp2_with (first | (refine wpList_loadR rfl 23 _ rfl b1 rfl _ aggKey rfl _ _ (st4.at (i := 1) rfl) (sizeKv hlen2.out) ?_) | (refine wpList_storeR st4 rfl 23 _ _ rfl 0 b2 rfl _ rfl _ _ rfl (sizeKv hlen2.out) (by show (kv l').size = _; rw [kv_size, hlen2.out, kv_size]; rfl) (kv_one l') _ rfl ?_; intro w5 st5; clear st4))
  refine ret_row rfl b2 _ _ _ rfl (st5.at (i := 0) rfl) aggKey rfl (sizeKv hlen2.out) rfl ⟨rfl, st5.below⟩
end Go.Proofs.Ytdkkklhpfflpkaa
