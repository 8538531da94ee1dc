/- The walks of FaultCodes, FaultIs and FaultOther. -/
import Derived.Test.YtmadfppacfmpeaaDoorFAlive
open Go Go.RowKit Go.Extern.Stop Go.Stop Go.Extern
namespace Go.Proofs.YtmadfppacfmpeaaDoor

set_option maxHeartbeats 1000000 in
theorem FaultCodes_walk (l : List Stp) (v : Value) (code : Int) (w : World) (hv : RdS w v l) (hg : GotET w) :
    Calls Tryd.prog 4 #[v, .int .i64 code] w fun e w' => e = .returned (.bool true) ∧ Below w.heap.size w w' := by
  have HV := Lib.hid hv
  have HG := Lib.hid hg
  clear hv hg
  have st := St.init w
  go_enter Tryd.func4, Tryd.ntmps4
  go_wp2_with (first
    | (go_at_call 9; refine (long_calls l v w HV.out).mono ?_; rintro e wn ⟨b, rfl, hb, hbel⟩; have stn := St.call (by assumption) hbel; clear hbel hb)
    | (go_at_call 10; refine (alive_calls _ (HG.out.call (St.below (by assumption)))).mono ?_; rintro e wn ⟨rfl, hbel⟩; have stn := St.call (by assumption) hbel; clear hbel)
    | (go_at_call 11; refine (build_calls l v code _ (HV.out.call (St.below (by assumption)))).mono ?_; rintro e wn ⟨u, rfl, herr, hbel⟩; have stn := St.call (by assumption) hbel; have Herr := Lib.hid herr; clear hbel herr)
    | (go_at_call 13; refine (Code_code _ _ _ _ (HG.out.call (St.below (by assumption))) Herr.out).mono ?_; rintro e wn ⟨rfl, hbel⟩; have stn := St.call (by assumption) hbel; clear hbel))
  all_goals
    go_ret
    exact ⟨rfl, St.below (by assumption)⟩

set_option maxHeartbeats 2000000 in
theorem FaultIs_walk (l : List Stp) (v : Value) (code other : Int) (w : World) (hv : RdS w v l) (hg : GotET w) :
    Calls Tryd.prog 5 #[v, .int .i64 code, .int .i64 other] w fun e w' => e = .returned (.bool true) ∧ Below w.heap.size w w' := by
  have HV := Lib.hid hv
  have HG := Lib.hid hg
  clear hv hg
  have st := St.init w
  go_enter Tryd.func5, Tryd.ntmps5
  go_wp2_with (first
    | (go_at_call 9; refine (long_calls l v w HV.out).mono ?_; rintro e wn ⟨b, rfl, hb, hbel⟩; have stn := St.call (by assumption) hbel; clear hbel hb)
    | (go_at_call 10; refine (alive_calls _ (HG.out.call (St.below (by assumption)))).mono ?_; rintro e wn ⟨rfl, hbel⟩; have stn := St.call (by assumption) hbel; (try have Herr2 := Lib.hid (Herr.out.call hbel)); (try clear Herr); clear hbel)
    | (go_at_call 11; refine (build_calls l v code _ (HV.out.call (St.below (by assumption)))).mono ?_; rintro e wn ⟨u, rfl, herr, hbel⟩; have stn := St.call (by assumption) hbel; have Herr := Lib.hid herr; clear hbel herr)
    | (go_at_call 14; with_reducible refine (FIs_nil _ _).mono ?_; rintro e wn ⟨rfl, rfl⟩)
    | (go_at_call 14; refine (FIs_code _ _ _ _ _ Herr2.out).mono ?_; rintro e wn ⟨rfl, rfl⟩))
  all_goals
    go_ret
    exact ⟨by simp, St.below (by assumption)⟩

end Go.Proofs.YtmadfppacfmpeaaDoor
