/- The example of the chapter holds: sparsetreelaw14.alive returns true. -/
import Derived.Test.YtdkkklhpfflpkaaRefBytes
open Go Go.RowKit
namespace Go.Proofs.Ytdkkklhpfflpkaa

def bm1 : List Nat := 128 :: 64 :: List.replicate 30 0
def bm2 : List Nat := 0 :: 64 :: List.replicate 30 0
def bm3 : List Nat := 128 :: 64 :: (List.replicate 29 0 ++ [1])
theorem key1 : Key bm1 := ⟨by decide, by decide⟩
theorem key2 : Key bm2 := ⟨by decide, by decide⟩
theorem key3 : Key bm3 := ⟨by decide, by decide⟩
theorem builtBm1 : Try.prog.built 34 [(0, .int .u8 128), (1, .int .u8 64)] = some (kv bm1) := by kernel_rfl
theorem fill4 : Instr.fill (fun i => some (i * 1, 1)) ((Array.range (4 * 1)).map ((Value.int .i64 0).cells[· % (Value.int .i64 0).cells.size]!)) [(0, .int .i64 0), (1, .int .i64 9), (2, .int .i64 9), (3, .int .i64 300)] = some (iv [0, 9, 9, 300]) := by kernel_rfl
theorem fill2 : Instr.fill (fun i => some (i * 1, 1)) ((Array.range (2 * 1)).map ((Value.int .i64 0).cells[· % (Value.int .i64 0).cells.size]!)) [(0, .int .i64 0), (1, .int .i64 9)] = some (iv [0, 9]) := by kernel_rfl

set_option maxHeartbeats 2000000 in
theorem alive14_calls (w : World) : Calls Try.prog 27 #[] w fun e w' => e = .returned (.bool true) ∧ Below w.heap.size w w' := by
  have h1 : Hid (bm1.length = 32) := key1.len
  have h2 : Hid (bm2.length = 32) := key2.len
  have h3 : Hid (bm3.length = 32) := key3.len
  have hz : Hid (zero32.length = 32) := key_zero.len
  have HA : Hid (∀ (b : Nat) (wx : World), wx.heap[b]? = some (.cells (iv [0, 9, 9, 300]) 3 (0, 0)) → Calls Try.prog 28 #[.slice (some ⟨b, 0, none⟩) 4 4] wx fun e w' => e = .returned (.agg (kv bm1)) ∧ Below wx.heap.size wx w') := fun b wx hv => by
    have h := Of_calls [0, 9, 9, 300] (.slice (some ⟨b, 0, none⟩) 4 4) wx (Rd.row (l := [0, 9, 9, 300]) (by decide) hv)
    rw [show ofL zero32 [0, 9, 9, 300] = bm1 by decide +kernel] at h
    exact h
  have HB : Hid (∀ (b : Nat) (wx : World), wx.heap[b]? = some (.cells (iv [9]) 3 (0, 0)) → Calls Try.prog 28 #[.slice (some ⟨b, 0, none⟩) 1 1] wx fun e w' => e = .returned (.agg (kv bm2)) ∧ Below wx.heap.size wx w') := fun b wx hv => by
    have h := Of_calls [9] (.slice (some ⟨b, 0, none⟩) 1 1) wx (Rd.row (l := [9]) (by decide) hv)
    rw [show ofL zero32 [9] = bm2 by decide +kernel] at h
    exact h
  have HL : Hid (∀ wx : World, Calls Try.prog 35 #[.agg (kv bm1)] wx fun e w' => IsList wx w' [0, 9] e) := fun wx => by
    have h := List_calls bm1 key1 wx
    rw [show setI bm1 = [0, 9] by decide +kernel] at h
    exact h
  have HS : Hid (∀ (v : Value) (b : Nat) (wx : World), Rd wx v [0, 9] → wx.heap[b]? = some (.cells (iv [0, 9]) 3 (0, 0)) → Calls Try.prog 34 #[v, .slice (some ⟨b, 0, none⟩) 2 2] wx fun e w' => e = .returned (.bool true) ∧ Below wx.heap.size wx w') := fun v b wx hv hu => Same_calls [0, 9] [0, 9] v (.slice (some ⟨b, 0, none⟩) 2 2) wx hv (Rd.row (l := [0, 9]) (by decide) hu)
  have HL1 : Hid (∀ wx : World, Calls Try.prog 36 #[.agg (kv bm1)] wx fun e w' => e = .returned (.int .i64 9) ∧ Below wx.heap.size wx w') := fun wx => by
    have h := Last_calls bm1 key1 wx
    rw [show lastI bm1 = 9 by decide +kernel] at h
    exact h
  have HL3 : Hid (∀ wx : World, Calls Try.prog 36 #[.agg (kv bm3)] wx fun e w' => e = .returned (.int .i64 255) ∧ Below wx.heap.size wx w') := fun wx => by
    have h := Last_calls bm3 key3 wx
    rw [show lastI bm3 = 255 by decide +kernel] at h
    exact h
  have HL0 : Hid (∀ wx : World, Calls Try.prog 36 #[.agg (kv zero32)] wx fun e w' => e = .returned (.int .i64 (-1)) ∧ Below wx.heap.size wx w') := fun wx => by
    have h := Last_calls zero32 key_zero wx
    rw [show lastI zero32 = -1 by decide +kernel] at h
    exact h
  have HN : Hid (∀ wx : World, Calls Try.prog 33 #[.agg (kv bm1)] wx fun e w' => e = .returned (.int .i64 2) ∧ Below wx.heap.size wx w') := fun wx => by
    have h := Len_calls bm1 key1 wx
    rw [show lenN bm1 = 2 by decide +kernel] at h
    exact h
  have HH9 : Hid (∀ wx : World, Calls Try.prog 30 #[.agg (kv bm1), .int .i64 9] wx fun e w' => e = .returned (.bool true) ∧ Below wx.heap.size wx w') := HasT bm1 key1 9 true (by decide +kernel)
  have HH3 : Hid (∀ wx : World, Calls Try.prog 30 #[.agg (kv bm1), .int .i64 300] wx fun e w' => e = .returned (.bool false) ∧ Below wx.heap.size wx w') := HasT bm1 key1 300 false (by decide +kernel)
  have HW : Hid (∀ wx : World, Calls Try.prog 31 #[.agg (kv bm1), .int .i64 255] wx fun e w' => e = .returned (.agg (kv bm3)) ∧ Below wx.heap.size wx w') := fun wx => by
    have h := With_calls bm1 key1 255 wx
    rw [show orI bm1 255 = bm3 by decide +kernel] at h
    exact h
  have HO : Hid (∀ wx : World, Calls Try.prog 32 #[.agg (kv bm1), .int .i64 0] wx fun e w' => e = .returned (.agg (kv bm2)) ∧ Below wx.heap.size wx w') := fun wx => by
    have h := Without_calls bm1 key1 0 wx
    rw [show andI bm1 0 = bm2 by decide +kernel] at h
    exact h
  have hq1 : ∀ w, (Op.equalIn 10000 34 (.agg (kv bm1)) (.agg (kv bm1))).run Try.prog w = .ok true w := fun w => by rw [eqlBm bm1 bm1 key1.len key1.len w]; simp
  have hq2 : ∀ w, (Op.equalIn 10000 34 (.agg (kv bm2)) (.agg (kv bm2))).run Try.prog w = .ok true w := fun w => by rw [eqlBm bm2 bm2 key2.len key2.len w]; simp
  have hg := guardBm
  have st := St.init w
  go_enter Try.func27, Try.ntmps27
  go_wp2_with (first | (refine wpList_buildSlice st rfl 30 4 _ rfl 3 sliceInt _ 1 zeroInt sizeInt (by decide) (by decide) [(0, .int .i64 0), (1, .int .i64 9), (2, .int .i64 9), (3, .int .i64 300)] ?_ _ fill4 ?_; (· (simp [Act.eval]; done)); intro bA wA stA _; clear st) | (go_at_call 28; have r0 := stA.at (i := 0) rfl; with_reducible refine (HA.out _ _ r0).mono ?_; clear r0; rintro e w2 ⟨rfl, hbel⟩; have st2 := stA.call hbel; clear stA hbel) | (refine wpList_newA st2 rfl 34 rfl _ zeroBm ?_; intro b1 w3 st3; clear st2) | (refine wpList_storeR st3 rfl 34 _ _ rfl 0 b1 rfl _ rfl _ _ rfl (sizeBm h1.out) (by show (kv bm1).size = _; rw [kv_size, h1.out, kv_size, hz.out]) (kv_one _) _ rfl ?_; intro w4 st4; simp only [List.set_cons_zero] at st4; clear st3) | (refine wpList_loadR rfl 34 _ rfl b1 rfl _ aggBm rfl _ _ (St.at (by assumption) (i := 0) rfl) (sizeBm h1.out) ?_) | (refine wpList_build rfl 34 _ rfl [(0, .int .u8 128), (1, .int .u8 64)] ?_ _ builtBm1 ?_; · (simp [Act.eval]; done)) | (go_at_call 35; refine (HL.out _).mono ?_; rintro e w5 ⟨vl, rfl, hrd, hbel, _⟩; have st5 := st4.call hbel; have Hrd := Lib.hid hrd; clear st4 hbel hrd) | (refine wpList_buildSlice st5 rfl 30 2 _ rfl 3 sliceInt _ 1 zeroInt sizeInt (by decide) (by decide) [(0, .int .i64 0), (1, .int .i64 9)] ?_ _ fill2 ?_; (· (simp [Act.eval]; done)); intro bS w6 st6 hb6; have Hrd6 := Lib.hid (Rd.call Hrd.out hb6); clear st5 Hrd hb6) | (go_at_call 34; have r0 := st6.at (i := 0) rfl; refine (HS.out _ _ _ Hrd6.out r0).mono ?_; clear r0; rintro e w7 ⟨rfl, hbel⟩; have st7 := (st6.call hbel).drop; clear st6 hbel Hrd6) | (go_at_call 36; with_reducible refine (HL1.out _).mono ?_; rintro e wn ⟨rfl, hbel⟩; have stn := St.call (by assumption) hbel; clear hbel) | (go_at_call 36; with_reducible refine (HL3.out _).mono ?_; rintro e wn ⟨rfl, hbel⟩; have stn := St.call (by assumption) hbel; clear hbel) | (go_at_call 36; with_reducible refine (HL0.out _).mono ?_; rintro e wn ⟨rfl, hbel⟩; have stn := St.call (by assumption) hbel; clear hbel) | (go_at_call 33; refine (HN.out _).mono ?_; rintro e wn ⟨rfl, hbel⟩; have stn := St.call (by assumption) hbel; clear hbel) | (go_at_call 30; with_reducible refine (HH9.out _).mono ?_; rintro e wn ⟨rfl, hbel⟩; have stn := St.call (by assumption) hbel; clear hbel) | (go_at_call 30; with_reducible refine (HH3.out _).mono ?_; rintro e wn ⟨rfl, hbel⟩; have stn := St.call (by assumption) hbel; clear hbel) | (go_at_call 31; refine (HW.out _).mono ?_; rintro e wn ⟨rfl, hbel⟩; have stn := St.call (by assumption) hbel; clear hbel) | (go_at_call 32; refine (HO.out _).mono ?_; rintro e wn ⟨rfl, hbel⟩; have stn := St.call (by assumption) hbel; clear hbel) | (refine wpList_buildSlice (by assumption) rfl 30 1 _ rfl 3 sliceInt _ 1 zeroInt sizeInt (by decide) (by decide) [(0, .int .i64 9)] ?_ _ (fill1 9) ?_; (· (simp [Act.eval]; done)); intro bD wD stD _) | (go_at_call 28; have r0 := stD.at (i := 0) rfl; with_reducible refine (HB.out _ _ r0).mono ?_; clear r0; rintro e w9 ⟨rfl, hbel⟩; have stn := (stD.call hbel).drop; clear stD hbel) | (refine wpList_build rfl 34 _ rfl [] ?_ _ builtBm0 ?_; · (simp; done)))
  go_ret
  exact ⟨rfl, stn.below⟩

end Go.Proofs.Ytdkkklhpfflpkaa
