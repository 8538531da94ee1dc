/- The examples of the chapter hold: sparsetreelaw01.alive returns true. -/
import Derived.Test.YtdkkklhpfflpkaaDirections
open Go Go.RowKit
namespace Go.Proofs.Ytdkkklhpfflpkaa

def kA : List Nat := 160 :: List.replicate 31 0
def kB : List Nat := 128 :: List.replicate 31 0
theorem keyA : Key kA := ⟨by decide, by decide⟩
theorem keyB : Key kB := ⟨by decide, by decide⟩
theorem zeroKeyLen : zero32.length = 32 := by decide

theorem builtA : Try.prog.built 23 [(0, .int .u8 160)] = some (kv kA) := by kernel_rfl
theorem builtB : Try.prog.built 23 [(0, .int .u8 128)] = some (kv kB) := by kernel_rfl

set_option maxHeartbeats 1000000 in
theorem alive_calls (w : World) : Calls Try.prog 15 #[] w fun e w' => e = .returned (.bool true) ∧ Below w.heap.size w w' := by
  have hA : Hid (kA.length = 32) := keyA.len
  have hB : Hid (kB.length = 32) := keyB.len
  have HB0 : Hid (∀ wx : World, Calls Try.prog 16 #[.agg (kv kA), .int .i64 0] wx fun e w' => e = .returned (.int .i64 1) ∧ Below wx.heap.size wx w') := Bit_calls kA keyA 0
  have HB1 : Hid (∀ wx : World, Calls Try.prog 16 #[.agg (kv kA), .int .i64 1] wx fun e w' => e = .returned (.int .i64 0) ∧ Below wx.heap.size wx w') := Bit_calls kA keyA 1
  have HB2 : Hid (∀ wx : World, Calls Try.prog 16 #[.agg (kv kA), .int .i64 256] wx fun e w' => e = .returned (.int .i64 (-1)) ∧ Below wx.heap.size wx w') := Bit_calls kA keyA 256
  have HC : Hid (∀ wx : World, Calls Try.prog 20 #[.agg (kv kA), .agg (kv kB)] wx fun e w' => e = .returned (.int .i64 2) ∧ Below wx.heap.size wx w') := fun wx => by
    have h := Common_calls kA kB keyA keyB wx
    rw [show comN kA kB = 2 by decide +kernel] at h
    exact h
  have HF : Hid (∀ wx : World, Calls Try.prog 18 #[.agg (kv kA), .int .i64 2] wx fun e w' => e = .returned (.agg (kv kB)) ∧ Below wx.heap.size wx w') := fun wx => by
    have h := Flip_calls kA keyA 2 wx
    rw [show flipI kA 2 = kB by decide +kernel] at h
    exact h
  have HP : Hid (∀ wx : World, Calls Try.prog 23 #[.agg (kv kA), .int .i64 2] wx fun e w' => e = .returned (.agg (kv kB)) ∧ Below wx.heap.size wx w') := fun wx => by
    have h := Prefix_calls kA keyA 2 (by decide) (by decide) wx
    rw [show preC kA (clampN 2) = kB by decide +kernel] at h
    exact h
  have HM : Hid (∀ wx : World, Calls Try.prog 22 #[.agg (kv kB), .agg (kv kA)] wx fun e w' => e = .returned (.int .i64 (-1)) ∧ Below wx.heap.size wx w') := fun wx => by
    have h := Compare_calls kB kA keyB keyA wx
    rw [show cmpL kB kA = -1 by decide +kernel] at h
    exact h
  have HD : Hid (∀ wx : World, Calls Try.prog 26 #[.agg (kv kA), .int .i64 4] wx fun e w' => IsInts wx w' [1, 0, 1, 0] e) := fun wx => by
    have h := Directions_calls kA keyA 4 wx
    rw [show dirL kA (clampN 4) = [1, 0, 1, 0] by decide +kernel] at h
    exact h
  have hq : ∀ w, (Op.equalIn 10000 23 (.agg (kv kB)) (.agg (kv kB))).run Try.prog w = .ok true w := fun w => by rw [eqlKey kB kB keyB.len keyB.len w]; simp
  have hg := guardKey
  have st := St.init w
  go_enter Try.func15, Try.ntmps15
  go_wp2_with (first | (refine wpList_build rfl 23 _ rfl [(0, .int .u8 160)] ?_ _ builtA ?_; · (simp [Act.eval]; done)) | (refine wpList_build rfl 23 _ rfl [(0, .int .u8 128)] ?_ _ builtB ?_; · (simp [Act.eval]; done)) | (refine wpList_newA (by assumption) rfl 23 rfl _ zeroKey ?_; intro b1 w1 st1; clear st) | (refine wpList_newA (by assumption) rfl 23 rfl _ zeroKey ?_; intro b2 w2 st2; clear st1) | (refine wpList_storeR st2 rfl 23 _ _ rfl 1 b1 rfl _ rfl _ _ rfl (sizeKv hA.out) (by show (kv kA).size = _; rw [kv_size, hA.out, kv_size, zeroKeyLen]) (kv_one _) _ rfl ?_; intro w3 st3; clear st2) | (refine wpList_storeR st3 rfl 23 _ _ rfl 0 b2 rfl _ rfl _ _ rfl (sizeKv hB.out) (by show (kv kB).size = _; rw [kv_size, hB.out, kv_size, zeroKeyLen]) (kv_one _) _ rfl ?_; intro w4 st4; clear st3) | (refine wpList_loadR rfl 23 _ rfl b1 rfl _ aggKey rfl _ _ (st4.at (i := 1) rfl) (sizeKv hA.out) ?_) | (go_at_call 26; refine (HD.out _).mono ?_; rintro e w5 ⟨g, rfl, hgs, hrow, hbel⟩; have st5 := st4.callNew hbel hgs hrow; clear st4 hbel hrow hgs))
  simp only [List.set_cons_succ, List.set_cons_zero] at st5
  change St _ _ [(g, iv [1, 0, 1, 0], 3), (b2, kv kB, 23), (b1, kv kA, 23)] _ at st5
  refine region_inv 49 st5 mixed (by kernel_rfl) ?_
  intro I hI hI'
  have q : ∀ wx, I wx → wx.cell? ⟨g, 2, none⟩ = some (.int .i64 1) := fun wx hw => ((hI wx hw).cell (i := 0) rfl _).trans rfl
  simp only [List.take_succ_cons, List.take_zero, List.drop_succ_cons, List.drop_zero]
  (refine Inv.wpInv_step (fun K hK => ?_); go_simp; refine inv_loadR 23 _ rfl b1 rfl _ aggKey rfl _ _ (fun wx hw => (hI wx hw).at (i := 2) rfl) (sizeKv hA.out) ?_
   refine hK _ ?_; clear hK K)
  (refine Inv.wpInv_step (fun K hK => ?_); go_simp; refine inv_call hI hI' 16 _ ?_ (fun wx stx => HB0.out wx) ?_; · (intro wx hw; go_simp)
   refine hK _ ?_; clear hK K)
  iterate 2
    (refine Inv.wpInv_step (fun K hK => ?_); go_simp; apply inv_run; · (intro wx hw; have q1 := q wx hw; go_simp; (try go_ints); (try go_simp); (try (rw [if_pos (by omega)])); (try go_simp); (first | done | rfl))
     refine hK _ ?_; clear hK K)
  (refine Inv.wpInv_step (fun K hK => ?_); go_simp; refine inv_loadR 23 _ rfl b1 rfl _ aggKey rfl _ _ (fun wx hw => (hI wx hw).at (i := 2) rfl) (sizeKv hA.out) ?_
   refine hK _ ?_; clear hK K)
  (refine Inv.wpInv_step (fun K hK => ?_); go_simp; refine inv_call hI hI' 16 _ ?_ (fun wx stx => HB1.out wx) ?_; · (intro wx hw; go_simp)
   refine hK _ ?_; clear hK K)
  iterate 3
    (refine Inv.wpInv_step (fun K hK => ?_); go_simp; apply inv_run; · (intro wx hw; have q1 := q wx hw; go_simp; (try go_ints); (try go_simp); (try (rw [if_pos (by omega)])); (try go_simp); (first | done | rfl))
     refine hK _ ?_; clear hK K)
  (refine Inv.wpInv_step (fun K hK => ?_); go_simp; refine inv_loadR 23 _ rfl b1 rfl _ aggKey rfl _ _ (fun wx hw => (hI wx hw).at (i := 2) rfl) (sizeKv hA.out) ?_
   refine hK _ ?_; clear hK K)
  (refine Inv.wpInv_step (fun K hK => ?_); go_simp; refine inv_call hI hI' 16 _ ?_ (fun wx stx => HB2.out wx) ?_; · (intro wx hw; go_simp)
   refine hK _ ?_; clear hK K)
  iterate 3
    (refine Inv.wpInv_step (fun K hK => ?_); go_simp; apply inv_run; · (intro wx hw; have q1 := q wx hw; go_simp; (try go_ints); (try go_simp); (try (rw [if_pos (by omega)])); (try go_simp); (first | done | rfl))
     refine hK _ ?_; clear hK K)
  (refine Inv.wpInv_step (fun K hK => ?_); go_simp; refine inv_loadR 23 _ rfl b1 rfl _ aggKey rfl _ _ (fun wx hw => (hI wx hw).at (i := 2) rfl) (sizeKv hA.out) ?_
   refine hK _ ?_; clear hK K)
  (refine Inv.wpInv_step (fun K hK => ?_); go_simp; refine inv_loadR 23 _ rfl b2 rfl _ aggKey rfl _ _ (fun wx hw => (hI wx hw).at (i := 1) rfl) (sizeKv hB.out) ?_
   refine hK _ ?_; clear hK K)
  (refine Inv.wpInv_step (fun K hK => ?_); go_simp; refine inv_call hI hI' 20 _ ?_ (fun wx stx => HC.out wx) ?_; · (intro wx hw; go_simp)
   refine hK _ ?_; clear hK K)
  iterate 3
    (refine Inv.wpInv_step (fun K hK => ?_); go_simp; apply inv_run; · (intro wx hw; have q1 := q wx hw; go_simp; (try go_ints); (try go_simp); (try (rw [if_pos (by omega)])); (try go_simp); (first | done | rfl))
     refine hK _ ?_; clear hK K)
  (refine Inv.wpInv_step (fun K hK => ?_); go_simp; refine inv_loadR 23 _ rfl b1 rfl _ aggKey rfl _ _ (fun wx hw => (hI wx hw).at (i := 2) rfl) (sizeKv hA.out) ?_
   refine hK _ ?_; clear hK K)
  (refine Inv.wpInv_step (fun K hK => ?_); go_simp; refine inv_call hI hI' 18 _ ?_ (fun wx stx => HF.out wx) ?_; · (intro wx hw; go_simp)
   refine hK _ ?_; clear hK K)
  (refine Inv.wpInv_step (fun K hK => ?_); go_simp; refine inv_loadR 23 _ rfl b2 rfl _ aggKey rfl _ _ (fun wx hw => (hI wx hw).at (i := 1) rfl) (sizeKv hB.out) ?_
   refine hK _ ?_; clear hK K)
  iterate 3
    (refine Inv.wpInv_step (fun K hK => ?_); go_simp; apply inv_run; · (intro wx hw; have q1 := q wx hw; go_simp; (try go_ints); (try go_simp); (try (rw [if_pos (by omega)])); (try go_simp); (first | done | rfl))
     refine hK _ ?_; clear hK K)
  (refine Inv.wpInv_step (fun K hK => ?_); go_simp; refine inv_loadR 23 _ rfl b1 rfl _ aggKey rfl _ _ (fun wx hw => (hI wx hw).at (i := 2) rfl) (sizeKv hA.out) ?_
   refine hK _ ?_; clear hK K)
  (refine Inv.wpInv_step (fun K hK => ?_); go_simp; refine inv_call hI hI' 23 _ ?_ (fun wx stx => HP.out wx) ?_; · (intro wx hw; go_simp)
   refine hK _ ?_; clear hK K)
  (refine Inv.wpInv_step (fun K hK => ?_); go_simp; refine inv_loadR 23 _ rfl b2 rfl _ aggKey rfl _ _ (fun wx hw => (hI wx hw).at (i := 1) rfl) (sizeKv hB.out) ?_
   refine hK _ ?_; clear hK K)
  iterate 3
    (refine Inv.wpInv_step (fun K hK => ?_); go_simp; apply inv_run; · (intro wx hw; have q1 := q wx hw; go_simp; (try go_ints); (try go_simp); (try (rw [if_pos (by omega)])); (try go_simp); (first | done | rfl))
     refine hK _ ?_; clear hK K)
  (refine Inv.wpInv_step (fun K hK => ?_); go_simp; refine inv_loadR 23 _ rfl b2 rfl _ aggKey rfl _ _ (fun wx hw => (hI wx hw).at (i := 1) rfl) (sizeKv hB.out) ?_
   refine hK _ ?_; clear hK K)
  (refine Inv.wpInv_step (fun K hK => ?_); go_simp; refine inv_loadR 23 _ rfl b1 rfl _ aggKey rfl _ _ (fun wx hw => (hI wx hw).at (i := 2) rfl) (sizeKv hA.out) ?_
   refine hK _ ?_; clear hK K)
  (refine Inv.wpInv_step (fun K hK => ?_); go_simp; refine inv_call hI hI' 22 _ ?_ (fun wx stx => HM.out wx) ?_; · (intro wx hw; go_simp)
   refine hK _ ?_; clear hK K)
  iterate 14
    (refine Inv.wpInv_step (fun K hK => ?_); go_simp; apply inv_run; · (intro wx hw; have q1 := q wx hw; go_simp; (try go_ints); (try go_simp); (try (rw [if_pos (by omega)])); (try go_simp); (first | done | rfl))
     refine hK _ ?_; clear hK K)
  refine Inv.wpInv_nil ?_
  intro w6 st6
  clear st5 hI hI' q
  go_wp2
  go_ret
  exact ⟨rfl, st6.below⟩

end Go.Proofs.Ytdkkklhpfflpkaa
