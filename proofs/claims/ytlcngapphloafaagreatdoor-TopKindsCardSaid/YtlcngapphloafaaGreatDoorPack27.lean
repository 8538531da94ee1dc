/- Parts of the proof that are used by the claim: Top4. No condition is added here. -/
import Derived.Test.YtlcngapphloafaaGreatDoorPack24
import Derived.Test.YtlcngapphloafaaGreatDoorPack26

/- TopKinds: the walk. -/
section
open Go Go.RowKit
namespace Go.Proofs.YtlcngapphloafaaGreatDoor
attribute [local irreducible] Inv.wpInv Mix.wpUp

theorem MDecode_calls (l : List Nat) (v : Value) (w : World) (hv : RdS w v l) (hlm : l.length ≤ 20000) (hby : ∀ x ∈ l, x < 256) : Calls Tryz.prog 13 #[v] w (MDecPost l w) := by
  by_cases h6 : l.length < 6
  · exact mdec_short l v w hv h6
  · by_cases h1 : l.getD 0 0 = 1
    · by_cases h2 : l.getD 1 0 = 2
      · exact mdec_main l v w hv (by omega) hlm hby h1 h2
      · exact mdec_kind l v w hv (by omega) h1 h2
    · exact mdec_version l v w hv (by omega) h1

/-- What Decode of package codec answers: some proof, and a code; OK only if the second byte is 0 or 1. -/
def KindPost (l : List Nat) (w : World) (e : Ending) (w' : World) : Prop :=
  Below w.heap.size w w' ∧ ∃ pc c, e = .returned (.tuple #[.agg pc, .int .i64 c]) ∧ pc.size = 99 ∧ (∀ u ∈ pc.toList, u.oneCell' = true) ∧ (c = 0 → l.getD 1 0 ≠ 2)
theorem decode_kind (l : List Nat) (v : Value) (hby : ∀ x ∈ l, x < 256) (w : World) (hv : RdS w v l) : Calls Tryz.prog 12 #[v] w (KindPost l w) := by
  refine (Decode_calls l v hby w hv).mono ?_
  rintro e w' ⟨⟨hok, s, rfl, hrd, _⟩ | ⟨_, c, hc, rfl⟩, hb⟩
  · obtain ⟨_, _, h100, _, _, hck⟩ := hok
    have hk := check_kind hck
    have hs : s.oneCell' = true := by obtain ⟨a, c, rfl⟩ := hrd.open; rfl
    have hlf : (lfOf l).length = 64 := by
      unfold lfOf
      split
      · rename_i h
        have := h100 h
        simp; omega
      · simp
    have hbm : (bmOf l).length = 32 := by unfold bmOf; simp; omega
    refine ⟨hb, _, 0, rfl, proofCells_size hlf hbm, proofCells_one hs, fun _ h2 => ?_⟩
    unfold kdOf at hk
    rw [h2] at hk
    rcases hk with h | h <;> exact absurd h (by decide)
  · exact ⟨hb, _, c, rfl, proofCells_size (by simp) rfl, proofCells_one rfl, fun h => by omega⟩

section
variable {KK : List Int} {ba : Option Addr} {bc : Nat} {lb : List Nat} {w : World}
theorem Kinds_long (hK : HasK KK w) (hg : GotET w) (n : Nat) (h : 20000 < n) : Calls Tryz.prog 4 #[.slice ba n bc] w fun e w' => e = .returned (.bool true) ∧ Below w.heap.size w w' := by
  have HR := Lib.hid (runs_calls KK w hK hg)
  have h' : (20000 : Int) < (n : Nat) := by omega
  clear hK hg h
  go_enter Tryz.func4, Tryz.ntmps4
  go_wp2_with (first
    | (go_at_call 8; refine HR.out.mono ?_; rintro e w4 ⟨rfl, hb4⟩))
  go_ret
  exact ⟨rfl, hb4⟩

set_option maxRecDepth 20000 in
set_option maxHeartbeats 1000000 in
theorem Kinds_short (hK : HasK KK w) (hg : GotET w) (hb : RdS w (.slice ba lb.length bc) lb) (bb : ∀ x ∈ lb, x < 256) (h : lb.length ≤ 20000) : Calls Tryz.prog 4 #[.slice ba lb.length bc] w fun e w' => e = .returned (.bool true) ∧ Below w.heap.size w w' := by
  have HR := Lib.hid (fun wx (hb : Below w.heap.size w wx) => runs_calls KK wx (hK.call hb) (got_far hg hb))
  have HD := Lib.hid (decode_kind lb _ bb w hb)
  have HM := Lib.hid (fun wx (hbx : Below w.heap.size w wx) => MDecode_calls lb _ wx (hb.call hbx) h bb)
  have h' : ((lb.length : Nat) : Int) ≤ 20000 := by omega
  have st := St.init w
  clear hK hg h bb hb
  go_enter Tryz.func4, Tryz.ntmps4
  go_upto_region 5 with (first
    | (go_at_call 12; refine HD.out.mono ?_; rintro e w1 ⟨hb1, pc, c1, rfl, hsz, hone, hc1⟩; have st1 := St.call st hb1; clear st hb1)
    | (refine wpList_newA st1 rfl 43 rfl _ zeroProof ?_; intro b3 w2 st2; clear st1)
    | (refine wpList_storeR st2 rfl 43 _ _ rfl 0 b3 rfl (.agg pc) rfl _ _ rfl (sizeProofOf hsz) (by show pc.size = _; rw [hsz, proofCells_size (by simp) rfl]) hone _ rfl ?_; intro w3 st3; clear st2)
    | (go_at_call 13; refine (HM.out _ st3.below).mono ?_; rintro e w4 ⟨hb4, v4, c4, rfl, hc4⟩; have st4 := St.call st3 hb4; clear st3 hb4))
  clear hone hsz
  by_cases h1 : c1 = 0
  · have h4 : c4 ≠ 0 := fun e => hc1 h1 (hc4 e)
    have h4' : (c4 != 0) = true := by simp [h4]
    subst h1
    clear hc1 hc4
    go_wp2_with (first
      | (go_at_call 8; refine (HR.out _ st4.below).mono ?_; rintro e w5 ⟨rfl, hb5⟩; have st5 := St.call st4 hb5))
    go_ret
    exact ⟨rfl, st5.below⟩
  · have h1' : (c1 != 0) = true := by simp [h1]
    clear hc1 hc4
    go_wp2_with (first
      | (go_at_call 8; refine (HR.out _ st4.below).mono ?_; rintro e w5 ⟨rfl, hb5⟩; have st5 := St.call st4 hb5))
    go_ret
    exact ⟨rfl, st5.below⟩

theorem TopKinds_walk (hK : HasK KK w) (hg : GotET w) (hb : RdS w (.slice ba lb.length bc) lb) (bb : ∀ x ∈ lb, x < 256) : Calls Tryz.prog 4 #[.slice ba lb.length bc] w fun e w' => e = .returned (.bool true) ∧ Below w.heap.size w w' := by
  by_cases h : lb.length ≤ 20000
  · exact Kinds_short hK hg hb bb h
  · exact Kinds_long hK hg lb.length (by omega)
end

end Go.Proofs.YtlcngapphloafaaGreatDoor
end
