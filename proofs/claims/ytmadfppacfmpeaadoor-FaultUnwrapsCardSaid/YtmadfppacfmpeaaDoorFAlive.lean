/- The example of the chapter holds: alive returns true. -/
import Derived.Test.YtmadfppacfmpeaaDoorFText
open Go Go.RowKit Go.Extern.Stop Go.Stop Go.Extern
namespace Go.Proofs.YtmadfppacfmpeaaDoor

def putB : ByteArray := ⟨#[112, 117, 116]⟩
theorem putText : errTxt 2 [(putB, 3)] = ⟨#[112, 117, 116, 32, 51, 58, 32, 101, 114, 114, 111, 114, 32, 50]⟩ := by
  have h3 : numB 3 = ⟨#[51]⟩ := by simp [numB, Lib.itoa, Lib.decDigits]
  have h2 : numB 2 = ⟨#[50]⟩ := by simp [numB, Lib.itoa, Lib.decDigits]
  simp only [errTxt, h3, h2, putB]
  decide +kernel

theorem HasText.fault {w : World} {p : Value} {x : ByteArray} (h : HasText w (.iface 44 p) x) (wx : World) (hb : Below w.heap.size w wx) :
    Calls Tryd.prog 18 #[p] wx fun e w' => e = .returned (.string x) ∧ Below wx.heap.size wx w' := by
  obtain ⟨t, u, f, hv, h1, _, h3⟩ := h
  injection hv with e1 e2
  subst e1
  subst e2
  have h := (h1 wx).symm.trans (methErrF p wx)
  injection h with h _
  injection h with h _
  subst h
  exact h3 wx hb

theorem HasText.code {w : World} {p : Value} {x : ByteArray} (h : HasText w (.iface 31 p) x) (wx : World) (hb : Below w.heap.size w wx) :
    Calls Tryd.prog 62 #[p] wx fun e w' => e = .returned (.string x) ∧ Below wx.heap.size wx w' := by
  obtain ⟨t, u, f, hv, h1, _, h3⟩ := h
  injection hv with e1 e2
  subst e1
  subst e2
  have h := (h1 wx).symm.trans (methErrE p wx)
  injection h with h _
  injection h with h _
  subst h
  exact h3 wx hb

set_option maxHeartbeats 1000000 in
theorem alive_calls (w : World) (hg : GotET w) : Calls Tryd.prog 10 #[] w fun e w' => e = .returned (.bool true) ∧ Below w.heap.size w w' := by
  have HG := Lib.hid hg
  clear hg
  have mE := methErrF
  have eE := entErrF
  go_enter Tryd.func10, Tryd.ntmps10
  go_wp2_with (first
    | (go_at_call 19; with_reducible refine (New_calls ⟨#[112, 117, 116]⟩ 3 31 (.int .i64 2) w).mono ?_; rintro e w1 ⟨b, rfl, hb, hrow, hbel⟩
       have hE : IsErr w1 (.iface 44 (.pointer (some ⟨b, 0, none⟩))) [(putB, 3)] (.iface 31 (.int .i64 2)) := ⟨b, _, rfl, hrow, rfl⟩
       have Hw := Lib.hid hbel
       have HG1 := Lib.hid (HG.out.call hbel)
       have HE := Lib.hid hE
       have hT := HasText.of_err w1 2 (ItoaAt.small w1 2 (by omega) (by omega)) [(putB, 3)] _ w1 (by intro s hs; simp at hs; subst hs; exact ItoaAt.small w1 3 (by omega) (by omega)) (by rw [putText]; decide) (Below.refl _ _) hE
       rw [putText] at hT
       have HT := Lib.hid hT.fault
       have st := St.init w1
       clear hE hbel hrow hb hT HG)
    | (go_at_call 16; refine (First_cons ⟨#[112, 117, 116]⟩ 3 [] _ _ _ (HG1.out.call (St.below (by assumption))) (HE.out.call (St.below (by assumption)))).mono ?_; rintro e w2 ⟨rfl, hbel⟩; have stn := St.call (by assumption) hbel; clear hbel)
    | (go_at_call 18; refine (HT.out _ (St.below (by assumption))).mono ?_; rintro e wn ⟨rfl, hbel⟩; have stn := St.call (by assumption) hbel; clear hbel)
    | (go_at_call 13; with_reducible refine (Code_nil _).mono ?_; rintro e wn ⟨rfl, hbel⟩; have stn := St.call (by assumption) hbel; clear hbel)
    | (go_at_call 13; refine (Code_code _ _ _ _ (HG1.out.call (St.below (by assumption))) (HE.out.call (St.below (by assumption)))).mono ?_; rintro e wn ⟨rfl, hbel⟩; have stn := St.call (by assumption) hbel; clear hbel)
    | (go_at_call 14; refine (FIs_code _ _ _ _ _ (HE.out.call (St.below (by assumption)))).mono ?_; rintro e wn ⟨rfl, rfl⟩)
    | (go_at_call 19; refine (New_nil _ _ _).mono ?_; rintro e wn ⟨rfl, hbel⟩; have stn := St.call (by assumption) hbel; clear hbel))
  go_ret
  exact ⟨rfl, Hw.out.trans ((St.below (by assumption)).mono Hw.out.size)⟩

end Go.Proofs.YtmadfppacfmpeaaDoor
