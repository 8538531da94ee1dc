/- The walk of FaultOps. -/
import Derived.Test.YtmadfppacfmpeaaDoorFLaws2
open Go Go.RowKit Go.Extern.Stop Go.Stop Go.Extern
namespace Go.Proofs.YtmadfppacfmpeaaDoor

set_option maxHeartbeats 2000000 in
theorem FaultOps_nil (v : Value) (code : Int) (w : World) (hv : RdS w v []) (hg : GotET w) :
    Calls Tryd.prog 6 #[v, .int .i64 code] w fun e w' => e = .returned (.bool true) ∧ Below w.heap.size w w' := by
  have HV := Lib.hid hv
  have HG := Lib.hid hg
  obtain ⟨a, cap, rfl, _⟩ := hv.open
  clear hv hg
  have st := St.init w
  go_enter Tryd.func6, Tryd.ntmps6
  go_wp2_with (first
    | (go_at_call 9; refine (long_calls _ _ w HV.out).mono ?_; rintro e wn ⟨b, rfl, hb, hbel⟩; have stn := St.call (by assumption) hbel; clear hbel hb)
    | (go_at_call 10; refine (alive_calls _ (HG.out.call (St.below (by assumption)))).mono ?_; rintro e wn ⟨rfl, hbel⟩; have stn := St.call (by assumption) hbel; clear hbel)
    | (go_at_call 11; refine (build_calls [] _ code _ (HV.out.call (St.below (by assumption)))).mono ?_; rintro e wn ⟨u, rfl, herr, hbel⟩; have stn := St.call (by assumption) hbel; have hu : u = .iface 31 (.int .i64 code) := herr; clear herr; subst hu; clear hbel)
    | (go_at_call 15; with_reducible refine (Ops_nil _).mono ?_; rintro e wn ⟨rfl, rfl⟩)
    | (go_at_call 15; refine (Ops_calls [] _ _ _ _ (by decide) (asFE _) rfl (by decide)).mono ?_; rintro e wn ⟨r, rfl, hr, hbel⟩; have stn := St.call (by assumption) hbel; obtain ⟨ra, rcap, rfl⟩ := hr.slice; clear hr hbel)
    | (go_at_call 16; refine (First_code _ _ (HG.out.call (St.below (by assumption)))).mono ?_; rintro e wn ⟨rfl, hbel⟩; have stn := St.call (by assumption) hbel; clear hbel))
  · go_ret
    exact ⟨rfl, St.below (by assumption)⟩
  refine wp_loop_rounds 1 ?_
  rw [rounds_succ]
  go_wp2_with (first
    | (go_at_call 10; refine (alive_calls _ (HG.out.call (St.below (by assumption)))).mono ?_; rintro e wn ⟨rfl, hbel⟩; have stn := St.call (by assumption) hbel; clear hbel)
    | (go_at_call 15; with_reducible refine (Ops_nil _).mono ?_; rintro e wn ⟨rfl, rfl⟩))
  go_ret
  exact ⟨rfl, St.below (by assumption)⟩

end Go.Proofs.YtmadfppacfmpeaaDoor
