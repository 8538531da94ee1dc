/- No bytes are the encoding of a proof and of a multiproof. The conditions: the two listed package-level variables start as the program text lays them. -/
import Derived.Test.YtlcngapphloafaaGreatDoorRows
import Derived.Test.YtlcngapphloafaaGreatDoorCards
import Derived.Test.YtlcngapphloafaaGreatDoorTie
import Derived.Test.YtlcngapphloafaaGreatDoorPack27
import Derived.Test.YtlcngapphloafaaGreatDoorPack28
import Derived.WalkKit
import Derived.SevenTiedAt
namespace Go.Proofs.YtlcngapphloafaaGreatDoor.topKinds
open Go Go.ChangeShapes Go.WideShapes Go.ChangeAt Go.RowKit
set_option linter.unusedVariables false
set_option maxRecDepth 100000 in
theorem lifted (os : Os) (started : os.Started) (H : Type) (enc : TypeId × Value → H) :
    ReturnsInHanded {} Tryz.checked os 4 .any (fun w args => (Rows.topKindsSpec.pre enc Tryz.prog Tryz.f4 [] false w args ∧ laidMetH Tryz.prog laid2 w) ∧ sizedMet enc Tryz.prog Tryz.f4 (OpenSpec.ofChange Rows.topKindsSpec) false w args)
      (Rows.topKindsSpec.post enc Tryz.prog Tryz.f4 false true false false) := by
  refine returnsInHanded_of_change_and (C := Tryz.checked) (X := fun w _ => laidMetH Tryz.prog laid2 w) (fun _ _ _ hh h => h.of_heap hh) own started (by kernel_rfl) Tryz.func4
    (ChangeSpec.witness_at (enc := enc) (C := Tryz.checked) (os := os) (X := fun w _ => laidMetH Tryz.prog laid2 w) false (laidWorld2 os) #[.slice none 0 0] 8 rfl (by kernel_rfl) (by kernel_rfl) (by kernel_rfl) (by kernel_rfl) (by kernel_rfl) (laidWorld2_met os _)) ?_
  intro W base args ds gs before hval0 hW hcnd _ hL _
  have hval : ∀ (j : Nat) t v, Tryz.f4.params[j]? = some t → args[j]? = some v → Value.okWide Tryz.prog W .any base t v := hval0
  have hW' := hW
  obtain ⟨p, q, hA0, hV, rfl, hfz, hnd⟩ := hW
  obtain ⟨hG, hK⟩ := of_laid2 hL
  have hA : DataW.TrodAll enc Tryz.prog W 0 (fun _ => true) true Tryz.f4.params.toList args.toList ds p := hA0
  rw [Tryz.params4] at hA hval
  obtain ⟨v0, vs0, d0, ds0, p0, q0, hargs, rfl, rfl, h0, r0⟩ := trodAll_cons hA
  obtain ⟨rfl, rfl, rfl⟩ := trodAll_nil r0
  obtain rfl : args = #[v0] := by cases args; simp_all
  obtain ⟨rfl, rfl⟩ := trodVars_none hV
  have k0 := h0
  have lt0 : ∀ x ∈ p0, x.block < W.heap.size := by obtain ⟨m, hm⟩ := k0; exact DataW.trod_lt m _ _ _ hm
  obtain ⟨ba, lb, bc, rfl, rb, bb⟩ := open_bytesT (hval 0 22 v0 rfl rfl) h0
  clear hA0 hval0
  refine (TopKinds_walk (KK := roundsK) hK hG rb bb).mono fun e W' ⟨he, bel⟩ => ?_
  subst he
  exact ⟨_, rfl, _, _, _, [], _, [], hW', trodAll_mk1 (shut_bool Tryz.underlying4 _), (trodAll_cons_mk (Below.trod laidOut (by kernel_rfl) (of_decide_eq_true (by kernel_rfl)) k0 bel lt0) trodAll_mk0), rfl, bel.frame _, fun h => by cases h⟩
theorem over : Rows.topKindsRow.holds Tryz.pinned (OpenSpec.ofChange Rows.topKindsSpec) :=
  OpenClaim.holds_of_wide 4 Tryz.f4 rfl rfl rfl rfl rfl rfl rfl ⟨rfl, rfl, rfl, rfl, rfl⟩ rfl rfl rfl rfl rfl (by kernel_rfl) Tryz.func4 (by kernel_rfl)
    (of_decide_eq_true (by kernel_rfl)) (by unfold Func.isWrapper; first | (rw [if_pos (by decide +kernel)]; kernel_rfl) | (rw [if_neg (by decide +kernel)]; exact ⟨rfl, rfl⟩))
    (fun os started H enc _ => lifted os started H enc)
theorem proved : Rows.TopKindsSaid := over
theorem card : Rows.TopKindsCardSaid :=
  Claim7.holds_tied_plain_at .later [] [.handle, .data] true (true, "7ee309f1b40ae00a3c814396555ba771f405780e294d6b68782ae9eed798d888") true
    proved (fun _ h => by cases h) (by kernel_rfl) (fun _ h => by cases h) topKinds_row_tie rfl ⟨rfl, rfl⟩ (by kernel_rfl) rfl
    (fun f fn hf hfn => by
      obtain rfl : f = 4 := Option.some.inj ((show Tryz.prog.funcNamed "sparsetree/sparsetreetop.TopKinds" = some 4 by kernel_rfl).symm.trans hf) |>.symm
      obtain rfl : fn = Tryz.f4 := (Option.some.inj (Tryz.func4.symm.trans hfn)).symm
      exact ⟨by kernel_rfl, fun j t ht => by
        rw [Tryz.params4] at ht
        have hj : j < 1 := by simpa using (Array.getElem?_eq_some_iff.1 ht).1
        match j, hj with
        | 0, _ => obtain rfl : 22 = t := Option.some.inj ht; exact (show Tryz.prog.wantsStandIn 22 = false by kernel_rfl)⟩)
    (by kernel_rfl)
end Go.Proofs.YtlcngapphloafaaGreatDoor.topKinds
namespace Go.Proofs.YtlcngapphloafaaGreatDoor
/-- The card, under a short name, for the claim. -/
theorem topKinds_holds : Rows.TopKindsCardSaid := topKinds.card
#print axioms topKinds_holds
end Go.Proofs.YtlcngapphloafaaGreatDoor
