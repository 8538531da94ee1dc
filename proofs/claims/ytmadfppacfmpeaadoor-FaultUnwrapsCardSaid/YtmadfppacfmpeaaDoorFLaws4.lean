/- The walk of FaultOps, a list that is not empty. -/
import Derived.Test.YtmadfppacfmpeaaDoorFLaws3
open Go Go.RowKit Go.Extern.Stop Go.Stop Go.Extern
namespace Go.Proofs.YtmadfppacfmpeaaDoor

theorem opCells_rev (l : List Stp) (k : Nat) (h : k < l.length) : (opCells l.reverse)[l.length - 1 - k]? = some (.string (l[k]).1) := by
  unfold opCells
  rw [List.getElem?_map, List.getElem?_reverse (by omega), show l.length - 1 - (l.length - 1 - k) = k by omega, List.getElem?_eq_getElem h]
  rfl

theorem RdC.open {w : World} {v : Value} {l : List Value} (h : RdC w v l) (h0 : 0 < l.length) : ∃ b off cap, v = .slice (some ⟨b, off, none⟩) l.length cap ∧ ∀ wx, Below w.heap.size w wx → ∀ i x, l[i]? = some x → wx.cell? ⟨b, off + i, none⟩ = some x := by
  rcases h with ⟨rfl, _⟩ | ⟨b, off, cap, rfl, hc⟩
  · cases h0
  · refine ⟨b, off, cap, rfl, fun wx hb i x hi => ?_⟩
    rw [hb.cell (block_lt_of_cell (hc i x hi))]
    exact hc i x hi

set_option maxHeartbeats 4000000 in
theorem FaultOps_cons (l : List Stp) (s : Stp) (rest : List Stp) (hrev : l.reverse = s :: rest) (v : Value) (code : Int) (w : World) (hv : RdS w v l) (hg : GotET w) :
    Calls Tryd.prog 6 #[v, .int .i64 code] w fun e w' => e = .returned (.bool true) ∧ Below w.heap.size w w' := by
  have HV := Lib.hid hv
  have HG := Lib.hid hg
  have hm := hv.1
  unfold maxLen at hm
  have hpos : 0 < l.length := by rw [← List.length_reverse, hrev]; simp
  have hlast : l[l.length - 1]? = some s := by
    have : l = (s :: rest).reverse := by rw [← hrev, List.reverse_reverse]
    rw [this]
    simp
  obtain ⟨a, cap, rfl, Hc⟩ := hv.open
  obtain ⟨bl, off, rfl, hcell⟩ := Hc.out hpos
  have Hcl := Lib.hid (hcell)
  obtain ⟨S0, N0⟩ := s
  have HR : Hid (l.reverse = (S0, N0) :: rest) := hrev
  have HLast := Lib.hid hlast
  clear hv hg hcell Hc hrev hlast
  have st := St.init w
  go_enter Tryd.func6, Tryd.ntmps6
  go_wp2_with (first
    | (go_at_call 9; refine (long_calls _ _ w HV.out).mono ?_; rintro e wn ⟨b, rfl, hb, hbel⟩; have stn := St.call (by assumption) hbel; have HB := Lib.hid hb; clear hbel hb)
    | (go_at_call 10; refine (alive_calls _ (HG.out.call (St.below (by assumption)))).mono ?_; rintro e wn ⟨rfl, hbel⟩; have stn := St.call (by assumption) hbel; clear hbel)
    | (go_at_call 11; refine (build_calls l _ code _ (HV.out.call (St.below (by assumption)))).mono ?_; rintro e wn ⟨u, rfl, herr, hbel⟩; have stn := St.call (by assumption) hbel; have Herr := Lib.hid herr; clear hbel herr)
    | (go_at_call 15; refine (Ops_calls l.reverse _ _ _ _ (by decide) (asFE _) Herr.out (by have := (HB.out (by assumption)).1; rw [List.length_reverse]; omega)).mono ?_; rintro e wn ⟨r, rfl, hr, hbel⟩; have stn := St.call (by assumption) hbel; have Hr := Lib.hid hr; have Herr2 := Lib.hid (Herr.out.call hbel); clear hr hbel Herr)
    | (go_at_call 16; refine (First_cons S0 N0 rest _ _ _ (HG.out.call (St.below (by assumption))) (by have := Herr2.out; rw [HR.out] at this; exact this)).mono ?_; rintro e wn ⟨rfl, hbel⟩; have stn := St.call (by assumption) hbel
       obtain ⟨rb, roff, rcap, rfl, hrc⟩ := (Hr.out.call hbel).open (by rw [opCells_len, List.length_reverse]; exact hpos)
       rw [opCells_len, List.length_reverse]
       have Hrc := Lib.hid hrc
       clear hbel Herr2 Hr hrc))
  · go_ret
    exact ⟨rfl, St.below (by assumption)⟩
  have hbf : b = false := by assumption
  subst hbf
  have Hstn := Lib.hid stn.below
  have st0 := St.init wn
  clear HB st
  go_loopw [41] (fun i wr => ∃ k : Int, 0 ≤ k ∧ k ≤ (l.length : Int) ∧ i = .int .i64 k ∧ St wn.heap.size wn [] wr) (fun i _ => ((l.length : Int) - intOf i).toNat)
  case atStart => exact ⟨0, by omega, by omega, rfl, st0⟩
  case round =>
    obtain ⟨k, k0, k1, rfl, st3⟩ := hrel
    clear st0
    have hbw : Below w.heap.size w wr := Hstn.out.trans (st3.below.mono Hstn.out.size)
    have Hbw := Lib.hid hbw
    clear hbw
    by_cases hlt : k < (l.length : Int)
    · have hk : k.toNat < l.length := by omega
      have Hcell := Lib.hid (Hcl.out wr Hbw.out _ _ (List.getElem?_eq_getElem hk))
      have st4 := st3.new #[.string (l[k.toNat]).1, .int .i64 (l[k.toNat]).2] 40
      have hr := Hrc.out _ st4.drop.below _ _ (opCells_rev l k.toNat hk)
      rw [show l.length - 1 - k.toNat = ((l.length : Int) - 1 - k).toNat by omega] at hr
      generalize (l[k.toNat]).1 = S at *
      generalize (l[k.toNat]).2 = N at *
      go_wp2_with (first
        | (refine wpList_load2 rfl 40 _ rfl bl (off + k.toNat * 2) rfl aggStep sizeStep _ _ Hcell.out.1 Hcell.out.2 ?_)
        | go_region)
      go_roundw
      case rel => exact ⟨k + 1, by omega, by omega, rfl, st4.drop.drew⟩
      case measure => simp [intOf]; omega
    · have HG3 := Lib.hid (HG.out.call Hbw.out)
      have Hlast := Lib.hid (Hcl.out wr Hbw.out _ _ HLast.out)
      have hne : ((l.length : Int) == 0) = false := by rw [beq_eq_false_iff_ne]; omega
      have st4 := st3.new #[.string S0, .int .i64 N0] 40
      go_wp2_with (first
        | (refine wpList_load2 rfl 40 _ rfl bl (off + (l.length - 1) * 2) rfl aggStep sizeStep _ _ Hlast.out.1 Hlast.out.2 ?_)
        | (go_at_call 10; refine (alive_calls _ (HG3.out.call ((Below.refl _ _).alloc (Nat.le_refl _) _))).mono ?_; rintro e wz ⟨rfl, hbel⟩; have st5 := st4.call hbel; have c0 := st5.cell (i := 0) rfl 0; have c1 := st5.cell (i := 0) rfl 1; clear hbel))
      go_ret
      exact ⟨rfl, Hstn.out.trans (st5.below.mono Hstn.out.size)⟩


theorem FaultOps_walk (l : List Stp) (v : Value) (code : Int) (w : World) (hv : RdS w v l) (hg : GotET w) :
    Calls Tryd.prog 6 #[v, .int .i64 code] w fun e w' => e = .returned (.bool true) ∧ Below w.heap.size w w' := by
  cases hr : l.reverse with
  | nil => obtain rfl := List.reverse_eq_nil_iff.1 hr; exact FaultOps_nil v code w hv hg
  | cons s rest => exact FaultOps_cons l s rest hr v code w hv hg

end Go.Proofs.YtmadfppacfmpeaaDoor
