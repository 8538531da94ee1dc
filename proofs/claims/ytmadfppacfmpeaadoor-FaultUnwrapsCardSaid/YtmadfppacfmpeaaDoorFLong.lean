/- The contract of long. -/
import Derived.Test.YtmadfppacfmpeaaDoorFBuild
open Go Go.RowKit
namespace Go.Proofs.YtmadfppacfmpeaaDoor

/-- What long tells of a list. -/
def IsLong (l : List Stp) (w w' : World) (e : Ending) : Prop := ∃ b, e = .returned (.bool b) ∧ (b = false → l.length ≤ 300 ∧ ∀ s ∈ l, s.1.size ≤ 5000) ∧ Below w.heap.size w w'

set_option maxHeartbeats 1000000 in
theorem long_calls (l : List Stp) (v : Value) (w : World) (hv : RdS w v l) :
    Calls Tryd.prog 9 #[v] w fun e w' => IsLong l w w' e := by
  have hm := hv.1
  unfold maxLen at hm
  obtain ⟨a, cap, rfl, Hc⟩ := hv.open
  clear hv
  have st := St.init w
  go_enter Tryd.func9, Tryd.ntmps9
  go_wp2
  go_loopw [3, 8] (fun n i wr => ∃ k N : Int, 0 ≤ k ∧ k ≤ (l.length : Int) ∧ 0 ≤ N ∧ N ≤ 5000 ∧ n = .int .i64 N ∧ i = .int .i64 k ∧ St w.heap.size w [] wr ∧ Hid (∀ s ∈ l.take k.toNat, s.1.size ≤ 5000)) (fun _ i _ => ((l.length : Int) - intOf i).toNat)
  case atStart => exact ⟨0, 0, by omega, by omega, by omega, by omega, rfl, rfl, st, by intro s hs; simp at hs⟩
  case round =>
    obtain ⟨k, N, k0, k1, n0, n1, rfl, rfl, st3, hs⟩ := hrel
    clear st
    by_cases hlt : k < (l.length : Int)
    · obtain ⟨bl, off, rfl, hcell⟩ := Hc.out (by omega)
      have hk : k.toNat < l.length := by omega
      have hget : l[k.toNat]? = some l[k.toNat] := List.getElem?_eq_getElem hk
      have Hcell : Hid (∀ wx : World, Below w.heap.size w wx → wx.cell? ⟨bl, off + k.toNat * 2, none⟩ = some (.string (l[k.toNat]).1) ∧ wx.cell? ⟨bl, off + k.toNat * 2 + 1, none⟩ = some (.int .i64 (l[k.toNat]).2)) := fun wx hb => hcell wx hb _ _ hget
      have Htake : Hid ((l[k.toNat]).1.size ≤ 5000 → ∀ s ∈ l.take (k + 1).toNat, s.1.size ≤ 5000) := fun h s hs' => by
        rw [show (k + 1).toNat = k.toNat + 1 by omega, List.take_succ_eq_append_getElem hk, List.mem_append, List.mem_singleton] at hs'
        rcases hs' with h' | rfl
        · exact hs.out s h'
        · exact h
      clear hcell hget
      generalize (l[k.toNat]).1 = S at *
      generalize (l[k.toNat]).2 = M at *
      by_cases hbig : 5000 < N + (1 + min (S.size : Int) 5000)
      · go_wp2_with (first | (refine wpList_load2 rfl 40 _ rfl bl (off + k.toNat * 2) rfl aggStep sizeStep _ _ (Hcell.out _ st3.below).1 (Hcell.out _ st3.below).2 ?_))
        all_goals
          go_ret
          exact ⟨true, rfl, fun h => by simp at h, (st3.new #[.string S, .int .i64 M] 40).below⟩
      · have hS : S.size ≤ 5000 := by omega
        have H5 := Htake.out hS
        have H6 := Lib.hid H5
        clear H5 Htake hs
        go_wp2_with (first | (refine wpList_load2 rfl 40 _ rfl bl (off + k.toNat * 2) rfl aggStep sizeStep _ _ (Hcell.out _ st3.below).1 (Hcell.out _ st3.below).2 ?_))
        go_roundw
        case rel => exact ⟨k + 1, N + (1 + (S.size : Int)), by omega, by omega, by omega, by omega, rfl, rfl, (st3.new #[.string S, .int .i64 M] 40).drop, H6.out⟩
        case measure => simp [intOf]; omega
    · have e : l.take k.toNat = l := List.take_of_length_le (by omega)
      rw [e] at hs
      by_cases h3 : (300 : Int) < (l.length : Int)
      · go_wp2
        go_ret
        exact ⟨true, rfl, fun h => by simp at h, st3.below⟩
      · go_wp2
        go_ret
        exact ⟨false, rfl, fun _ => ⟨by omega, hs.out⟩, st3.below⟩

end Go.Proofs.YtmadfppacfmpeaaDoor
