/- The walk of FaultOther. -/
import Derived.Test.YtmadfppacfmpeaaDoorFLaws
open Go Go.RowKit Go.Extern.Stop Go.Stop Go.Extern
namespace Go.Proofs.YtmadfppacfmpeaaDoor

theorem RdC.slice {w : World} {v : Value} {l : List Value} (h : RdC w v l) : ∃ a cap, v = .slice a l.length cap := by
  rcases h with ⟨rfl, a, cap, rfl⟩ | ⟨b, off, cap, rfl, _⟩
  · exact ⟨a, cap, rfl⟩
  · exact ⟨_, cap, rfl⟩

set_option maxHeartbeats 2000000 in
theorem FaultOther_walk (l : List Stp) (v : Value) (code : Int) (w : World) (hv : RdS w v l) (hg : GotET w) :
    Calls Tryd.prog 8 #[v, .int .i64 code] w fun e w' => e = .returned (.bool true) ∧ Below w.heap.size w w' := by
  have HV := Lib.hid hv
  have HG := Lib.hid hg
  have hm := hv.1
  unfold maxLen at hm
  obtain ⟨a, cap, rfl, Hc⟩ := hv.open
  clear hv hg
  have st := St.init w
  go_enter Tryd.func8, Tryd.ntmps8
  go_wp2_with (first
    | (go_at_call 9; refine (long_calls l _ w HV.out).mono ?_; rintro e wn ⟨b, rfl, hb, hbel⟩; have stn := St.call st hbel; have HB := Lib.hid hb; clear hbel hb)
    | (go_at_call 10; refine (alive_calls _ (HG.out.call (St.below (by assumption)))).mono ?_; rintro e wn ⟨rfl, hbel⟩; have stn := St.call (by assumption) hbel; clear hbel))
  · go_ret
    exact ⟨rfl, St.below (by assumption)⟩
  have hbf : b = false := by assumption
  subst hbf
  have hl : l.length ≤ 300 := (HB.out rfl).1
  clear HV
  go_loopw [5, 15] (fun err i wr => ∃ k : Int, 0 ≤ k ∧ k ≤ (l.length : Int) ∧ i = .int .i64 k ∧ St w.heap.size w [] wr ∧ IsErr wr err (l.take k.toNat).reverse (.iface 47 (.agg #[]))) (fun _ i _ => ((l.length : Int) - intOf i).toNat)
  case atStart => exact ⟨0, by omega, by omega, rfl, stn, rfl⟩
  case round =>
    obtain ⟨k, k0, k1, rfl, st3, herr⟩ := hrel
    clear st stn
    have Herr := Lib.hid herr
    obtain ⟨et, eu, rfl⟩ := herr.iface
    clear herr
    by_cases hlt : k < (l.length : Int)
    · obtain ⟨bl, off, rfl, hcell⟩ := Hc.out (by omega)
      have hk : k.toNat < l.length := by omega
      have hget : l[k.toNat]? = some l[k.toNat] := List.getElem?_eq_getElem hk
      have Hcell : Hid (∀ wx : World, Below w.heap.size w wx → wx.cell? ⟨bl, off + k.toNat * 2, none⟩ = some (.string (l[k.toNat]).1) ∧ wx.cell? ⟨bl, off + k.toNat * 2 + 1, none⟩ = some (.int .i64 (l[k.toNat]).2)) := fun wx hb => hcell wx hb _ _ hget
      have Htake : Hid ((l.take (k + 1).toNat).reverse = ((l[k.toNat]).1, (l[k.toNat]).2) :: (l.take k.toNat).reverse) := by
        unfold Hid
        rw [show (k + 1).toNat = k.toNat + 1 by omega, List.take_succ_eq_append_getElem hk, List.reverse_append]
        rfl
      clear hcell hget
      generalize (l[k.toNat]).1 = S at *
      generalize (l[k.toNat]).2 = N at *
      go_wp2_with (first
        | (refine wpList_load2 rfl 40 _ rfl bl (off + k.toNat * 2) rfl aggStep sizeStep _ _ (Hcell.out _ st3.below).1 (Hcell.out _ st3.below).2 ?_))
      refine (New_calls S N et eu _).mono ?_
      rintro e w5 ⟨b5, rfl, hb5, hrow5, hbel⟩
      have st4 := st3.new #[.string S, .int .i64 N] 40
      have st5 := (st4.call hbel).drop
      have herr5 : IsErr w5 (.iface 44 (.pointer (some ⟨b5, 0, none⟩))) (l.take (k + 1).toNat).reverse (.iface 47 (.agg #[])) := by
        rw [Htake.out]
        exact ⟨b5, _, rfl, hrow5, (Herr.out.call ((Below.refl _ _).alloc (Nat.le_refl _) _)).call hbel⟩
      have Herr5 := Lib.hid herr5
      clear herr5 hrow5 hbel hb5 st4 st3 Herr
      go_wp2
      go_roundw
      case rel => exact ⟨k + 1, by omega, by omega, rfl, st5, Herr5.out⟩
      case measure => simp [intOf]; omega
    · have e : l.take k.toNat = l := List.take_of_length_le (by omega)
      rw [e] at Herr
      have HL3 := Lib.hid hl
      clear hl
      go_wp2_with (first
        | (go_at_call 10; refine (alive_calls _ (HG.out.call (St.below (by assumption)))).mono ?_; rintro e wn ⟨rfl, hbel⟩; have stn := St.call (by assumption) hbel; have Herr2 := Lib.hid (Herr.out.call hbel); clear hbel Herr)
        | (go_at_call 13; refine (Code_plain _ _ _ _ (HG.out.call (St.below (by assumption))) Herr2.out).mono ?_; rintro e wn ⟨rfl, hbel⟩; have stn := St.call (by assumption) hbel; have Herr3 := Lib.hid (Herr2.out.call hbel); clear hbel Herr2)
        | (go_at_call 14; refine (FIs_plain _ _ _ _ _ Herr3.out).mono ?_; rintro e wn ⟨rfl, rfl⟩)
        | (go_at_call 15; refine (Ops_calls _ _ _ _ _ (by decide) (asFP _) Herr3.out (by have := HL3.out; rw [List.length_reverse]; omega)).mono ?_; rintro e wn ⟨r, rfl, hr, hbel⟩; have stn := St.call (by assumption) hbel; obtain ⟨ra, rcap, rfl⟩ := hr.slice; rw [opCells_len, List.length_reverse]; clear hr hbel))
      go_ret
      exact ⟨rfl, St.below (by assumption)⟩

end Go.Proofs.YtmadfppacfmpeaaDoor
