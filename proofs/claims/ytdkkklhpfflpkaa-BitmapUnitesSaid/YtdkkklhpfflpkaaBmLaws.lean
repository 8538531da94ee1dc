/- The walks of BitmapOf and BitmapHas. -/
import Derived.Test.YtdkkklhpfflpkaaAlive14
open Go Go.RowKit
namespace Go.Proofs.Ytdkkklhpfflpkaa

theorem alive14H : Hid (∀ wx : World, Calls Try.prog 27 #[] wx fun e w' => e = .returned (.bool true) ∧ Below wx.heap.size wx w') := alive14_calls

set_option maxHeartbeats 1000000 in
theorem BitmapOf_rd (l : List Int) (v : Value) (w : World) (hv : Rd w v l) :
    Calls Try.prog 9 #[v] w fun e w' => e = .returned (.bool true) ∧ Below w.heap.size w w' := by
  have hm := hv.1
  unfold maxLen at hm
  obtain ⟨a, cap, rfl, _⟩ := hv.open
  have HA := alive14H
  have H1 : Hid (∀ wx : World, St w.heap.size w [] wx → Calls Try.prog 28 #[.slice a l.length cap] wx fun e w' => e = .returned (.agg (kv (ofL zero32 l))) ∧ Below wx.heap.size wx w') := fun wx st => Of_calls l _ wx (hv.call st.below)
  have H2 : Hid (∀ wx : World, St w.heap.size w [] wx → Calls Try.prog 29 #[.slice a l.length cap] wx fun e w' => e = .returned (.agg (kv (ofL zero32 l))) ∧ Below wx.heap.size wx w') := fun wx st => RefBytes_calls l _ wx (hv.call st.below)
  have hk : (ofL zero32 l).length = 32 := (Key.ofL l key_zero).len
  have hq : ∀ w, (Op.equalIn 10000 34 (.agg (kv (ofL zero32 l))) (.agg (kv (ofL zero32 l)))).run Try.prog w = .ok true w := fun w => by rw [eqlBm _ _ hk hk w]; simp
  have hg := guardBm
  clear hk
  clear hv
  have st := St.init w
  by_cases h300 : (300 : Int) < (l.length : Int)
  · clear hq hg
    go_enter Try.func9, Try.ntmps9
    go_wp2_with (first | (go_at_call 27; refine (HA.out _).mono ?_; rintro e wn ⟨rfl, hbel⟩; have stn := St.call (by assumption) hbel; clear hbel))
    go_ret
    exact ⟨rfl, stn.below⟩
  · generalize ofL zero32 l = O at *
    go_enter Try.func9, Try.ntmps9
    go_wp2_with (first | (go_at_call 27; refine (HA.out _).mono ?_; rintro e wn ⟨rfl, hbel⟩; have stn := St.call (by assumption) hbel; clear hbel) | (go_at_call 28; refine (H1.out _ stn).mono ?_; rintro e wn ⟨rfl, hbel⟩; have st2 := St.call stn hbel; clear hbel stn) | (go_at_call 29; refine (H2.out _ st2).mono ?_; rintro e wn ⟨rfl, hbel⟩; have st3 := St.call st2 hbel; clear hbel st2))
    go_ret
    exact ⟨rfl, st3.below⟩

theorem BitmapOf_walk (w : World) (a : Option Addr) (len cap : Nat) (zs : List Int) (h : IsRow w a len cap zs) :
    Calls Try.prog 9 #[.slice a len cap] w fun e w' => e = .returned (.bool true) ∧ Below w.heap.size w w' := BitmapOf_rd _ _ w (Rd.of_row h)

set_option maxHeartbeats 1000000 in
theorem BitmapHas_walk (w : World) (b : List Nat) (hk : Key b) (i : Int) (_hi : (Lit.int .i64 i).wf = true) :
    Calls Try.prog 10 #[.agg (kv b), .int .i64 i] w fun e w' => e = .returned (.bool true) ∧ Below w.heap.size w w' := by
  have hlen : Hid (b.length = 32) := hk.len
  have HA := alive14H
  have H1 := Lib.hid (HasT b hk i _ rfl)
  have H2 := Lib.hid (RefBit_calls b hk i)
  clear hk
  generalize bitI b i = X at *
  have st := St.init w
  go_enter Try.func10, Try.ntmps10
  go_wp2_with (first | (refine wpList_boxA (by assumption) rfl 34 _ rfl _ rfl ?_; intro b1 w1 st1; clear st))
  refine region_inv 12 st1 mixed (by kernel_rfl) ?_
  intro I hI hI'
  simp only [List.take_succ_cons, List.take_zero, List.drop_succ_cons, List.drop_zero]
  (refine Inv.wpInv_step (fun K hK => ?_); go_simp; refine inv_call hI hI' 27 _ ?_ (fun wx stx => HA.out wx) ?_; · (intro wx hw; go_simp)
   refine hK _ ?_; clear hK K)
  iterate 1
    (refine Inv.wpInv_step (fun K hK => ?_); go_simp; apply inv_run; · (intro wx hw; go_simp; (try go_ints); (try go_simp); (try (rw [if_pos (by omega)])); (try go_simp); (first | done | rfl))
     refine hK _ ?_; clear hK K)
  (refine Inv.wpInv_step (fun K hK => ?_); go_simp; refine inv_loadR 34 _ rfl b1 rfl _ aggBm rfl _ _ (fun wx hw => (hI wx hw).at (i := 0) rfl) (sizeBm hlen.out) ?_
   refine hK _ ?_; clear hK K)
  iterate 1
    (refine Inv.wpInv_step (fun K hK => ?_); go_simp; apply inv_run; · (intro wx hw; go_simp; (try go_ints); (try go_simp); (try (rw [if_pos (by omega)])); (try go_simp); (first | done | rfl))
     refine hK _ ?_; clear hK K)
  (refine Inv.wpInv_step (fun K hK => ?_); go_simp; refine inv_call hI hI' 30 _ ?_ (fun wx stx => H1.out wx) ?_; · (intro wx hw; go_simp)
   refine hK _ ?_; clear hK K)
  (refine Inv.wpInv_step (fun K hK => ?_); go_simp; refine inv_loadR 34 _ rfl b1 rfl _ aggBm rfl _ _ (fun wx hw => (hI wx hw).at (i := 0) rfl) (sizeBm hlen.out) ?_
   refine hK _ ?_; clear hK K)
  iterate 1
    (refine Inv.wpInv_step (fun K hK => ?_); go_simp; apply inv_run; · (intro wx hw; go_simp; (try go_ints); (try go_simp); (try (rw [if_pos (by omega)])); (try go_simp); (first | done | rfl))
     refine hK _ ?_; clear hK K)
  (refine Inv.wpInv_step (fun K hK => ?_); go_simp; refine inv_call hI hI' 17 _ ?_ (fun wx stx => H2.out wx) ?_; · (intro wx hw; go_simp)
   refine hK _ ?_; clear hK K)
  iterate 4
    (refine Inv.wpInv_step (fun K hK => ?_); go_simp; apply inv_run; · (intro wx hw; go_simp; (try go_ints); (try go_simp); (try (rw [if_pos (by omega)])); (try go_simp); (first | done | rfl))
     refine hK _ ?_; clear hK K)
  refine Inv.wpInv_nil ?_
  intro w6 st6
  clear hI hI'
  go_wp2
  go_ret
  exact ⟨by simp, st6.below⟩

end Go.Proofs.Ytdkkklhpfflpkaa
