/- TopUpdates: the root after putting a key is computed from the proof for the key alone, if the way of the key ends at an empty subtree or at its own leaf. The conditions: the two listed package-level variables start as the program text lays them. -/
import Derived.Test.YtlcngapphloafaaGreatDoorRows
import Derived.Test.YtlcngapphloafaaGreatDoorCards
import Derived.Test.YtlcngapphloafaaGreatDoorTie
import Derived.Test.YtlcngapphloafaaGreatDoorPk44
import Derived.Test.YtlcngapphloafaaGreatDoorPk30
import Derived.WalkKit
import Derived.SevenTiedAt
namespace Go.Proofs.YtlcngapphloafaaGreatDoor.topUpdates
open Go Go.ChangeShapes Go.WideShapes Go.ChangeAt Go.RowKit
set_option linter.unusedVariables false
set_option maxRecDepth 100000 in
theorem lifted (os : Os) (started : os.Started) (H : Type) (enc : TypeId × Value → H) :
    ReturnsInHanded {} Tryz.checked os 5 .any (fun w args => (Rows.topUpdatesSpec.pre enc Tryz.prog Tryz.f5 [] false w args ∧ laidMetH Tryz.prog laid2 w) ∧ sizedMet enc Tryz.prog Tryz.f5 (OpenSpec.ofChange Rows.topUpdatesSpec) false w args)
      (Rows.topUpdatesSpec.post enc Tryz.prog Tryz.f5 false true false false) := by
  refine returnsInHanded_of_change_and (C := Tryz.checked) (X := fun w _ => laidMetH Tryz.prog laid2 w) (fun _ _ _ hh h => h.of_heap hh) own started (by kernel_rfl) Tryz.func5
    (ChangeSpec.witness_at (enc := enc) (C := Tryz.checked) (os := os) (X := fun w _ => laidMetH Tryz.prog laid2 w) false (laidWorld2 os) #[.int .i64 0, .slice none 0 0, .agg #[.int .u8 0, .int .u8 0, .int .u8 0, .int .u8 0, .int .u8 0, .int .u8 0, .int .u8 0, .int .u8 0, .int .u8 0, .int .u8 0, .int .u8 0, .int .u8 0, .int .u8 0, .int .u8 0, .int .u8 0, .int .u8 0, .int .u8 0, .int .u8 0, .int .u8 0, .int .u8 0, .int .u8 0, .int .u8 0, .int .u8 0, .int .u8 0, .int .u8 0, .int .u8 0, .int .u8 0, .int .u8 0, .int .u8 0, .int .u8 0, .int .u8 0, .int .u8 0, .slice none 0 0]] 8 rfl (by kernel_rfl) (by kernel_rfl) (by kernel_rfl) (by kernel_rfl) (by kernel_rfl) (laidWorld2_met os _)) ?_
  intro W base args ds gs before hval0 hW hcnd _ hL _
  have hval : ∀ (j : Nat) t v, Tryz.f5.params[j]? = some t → args[j]? = some v → Value.okWide Tryz.prog W .any base t v := hval0
  have hW' := hW
  obtain ⟨p, q, hA0, hV, rfl, hfz, hnd⟩ := hW
  obtain ⟨hG, hK⟩ := of_laid2 hL
  have hA : DataW.TrodAll enc Tryz.prog W 0 (fun _ => true) true Tryz.f5.params.toList args.toList ds p := hA0
  rw [Tryz.params5] at hA hval
  obtain ⟨v0, vs0, d0, ds0, p0, q0, hargs, rfl, rfl, h0, r0⟩ := trodAll_cons hA
  obtain ⟨v1, vs1, d1, ds1, p1, q1, rfl, rfl, rfl, h1, r1⟩ := trodAll_cons r0
  obtain ⟨v2, vs2, d2, ds2, p2, q2, rfl, rfl, rfl, h2, r2⟩ := trodAll_cons r1
  obtain ⟨rfl, rfl, rfl⟩ := trodAll_nil r2
  obtain rfl : args = #[v0, v1, v2] := by cases args; simp_all
  obtain ⟨rfl, rfl⟩ := trodVars_none hV
  obtain ⟨a0, rfl, rfl, rfl, w0⟩ := open_int Tryz.underlying3 (hval 0 3 v0 rfl rfl) h0
  have k1 := h1
  have lt1 : ∀ x ∈ p1, x.block < W.heap.size := by obtain ⟨m, hm⟩ := k1; exact DataW.trod_lt m _ _ _ hm
  obtain ⟨oa, on, oc, rfl, ro⟩ := open_opsT (hval 1 50 v1 rfl rfl) h1
  have k2 := h2
  have lt2 : ∀ x ∈ p2, x.block < W.heap.size := by obtain ⟨m, hm⟩ := k2; exact DataW.trod_lt m _ _ _ hm
  obtain ⟨ek, ea, en, ec, rfl, rk, re⟩ := open_entry (hval 2 52 v2 rfl rfl) h2
  clear hA0 hval0
  refine (TopUpdates_walk a0 oa on oc ro ek ea en ec rk re hK hG).mono fun e W' ⟨he, bel⟩ => ?_
  subst he
  exact ⟨_, rfl, _, _, _, [], _, [], hW', trodAll_mk1 (shut_bool Tryz.underlying4 _), (trodAll_cons_mk (shut_int Tryz.underlying3 w0) (trodAll_cons_mk (Below.trod laidOut (by kernel_rfl) (of_decide_eq_true (by kernel_rfl)) k1 bel lt1) (trodAll_cons_mk (Below.trod laidOut (by kernel_rfl) (of_decide_eq_true (by kernel_rfl)) k2 bel lt2) trodAll_mk0))), rfl, bel.frame _, fun h => by cases h⟩
theorem over : Rows.topUpdatesRow.holds Tryz.pinned (OpenSpec.ofChange Rows.topUpdatesSpec) :=
  OpenClaim.holds_of_wide 5 Tryz.f5 rfl rfl rfl rfl rfl rfl rfl ⟨rfl, rfl, rfl, rfl, rfl⟩ rfl rfl rfl rfl rfl (by kernel_rfl) Tryz.func5 (by kernel_rfl)
    (of_decide_eq_true (by kernel_rfl)) (by unfold Func.isWrapper; first | (rw [if_pos (by decide +kernel)]; kernel_rfl) | (rw [if_neg (by decide +kernel)]; exact ⟨rfl, rfl⟩))
    (fun os started H enc _ => lifted os started H enc)
theorem proved : Rows.TopUpdatesSaid := over
theorem card : Rows.TopUpdatesCardSaid :=
  Claim7.holds_tied_plain_at .later [] [.handle, .data] true (true, "7ee309f1b40ae00a3c814396555ba771f405780e294d6b68782ae9eed798d888") true
    proved (fun _ h => by cases h) (by kernel_rfl) (fun _ h => by cases h) topUpdates_row_tie rfl ⟨rfl, rfl⟩ (by kernel_rfl) rfl
    (fun f fn hf hfn => by
      obtain rfl : f = 5 := Option.some.inj ((show Tryz.prog.funcNamed "sparsetree/sparsetreetop.TopUpdates" = some 5 by kernel_rfl).symm.trans hf) |>.symm
      obtain rfl : fn = Tryz.f5 := (Option.some.inj (Tryz.func5.symm.trans hfn)).symm
      exact ⟨by kernel_rfl, fun j t ht => by
        rw [Tryz.params5] at ht
        have hj : j < 3 := by simpa using (Array.getElem?_eq_some_iff.1 ht).1
        match j, hj with
        | 0, _ => obtain rfl : 3 = t := Option.some.inj ht; exact (show Tryz.prog.wantsStandIn 3 = false by kernel_rfl)
        | 1, _ => obtain rfl : 50 = t := Option.some.inj ht; exact (show Tryz.prog.wantsStandIn 50 = false by kernel_rfl)
        | 2, _ => obtain rfl : 52 = t := Option.some.inj ht; exact (show Tryz.prog.wantsStandIn 52 = false by kernel_rfl)⟩)
    (by kernel_rfl)
end Go.Proofs.YtlcngapphloafaaGreatDoor.topUpdates
namespace Go.Proofs.YtlcngapphloafaaGreatDoor
/-- The card, under a short name, for the claim. -/
theorem topUpdates_holds : Rows.TopUpdatesCardSaid := topUpdates.card
#print axioms topUpdates_holds
end Go.Proofs.YtlcngapphloafaaGreatDoor
