/- Parts of the proof that are used by the claim: PCheck2, Codec1. No condition is added here. -/
import Derived.Test.YtlcngapphloafaaGreatDoorPack15

/- Package proof: Check. -/
section
open Go Go.RowKit
namespace Go.Proofs.YtlcngapphloafaaGreatDoor
attribute [local irreducible] Inv.wpInv Mix.wpUp

theorem idxRule1 (w : World) : (Instr.index 153 (.agg rulesCells) (.int .i64 0)).run Tryz.prog w = .ok (.agg (ruleC 106 7)) w := by kernel_rfl
theorem idxRule2 (w : World) : (Instr.index 153 (.agg rulesCells) (.int .i64 1)).run Tryz.prog w = .ok (.agg (ruleC 107 5)) w := by kernel_rfl
theorem idxRule3 (w : World) : (Instr.index 153 (.agg rulesCells) (.int .i64 2)).run Tryz.prog w = .ok (.agg (ruleC 108 5)) w := by kernel_rfl
theorem idxRule4 (w : World) : (Instr.index 153 (.agg rulesCells) (.int .i64 3)).run Tryz.prog w = .ok (.agg (ruleC 109 5)) w := by kernel_rfl
theorem idxRule5 (w : World) : (Instr.index 153 (.agg rulesCells) (.int .i64 4)).run Tryz.prog w = .ok (.agg (ruleC 111 5)) w := by kernel_rfl

theorem aggArrE : ∃ d, Tryz.prog.underlying 36 = some d ∧ aggB d = true := by
  have h : (Tryz.prog.underlying 36).map aggB = some true := by kernel_rfl
  cases hq : Tryz.prog.underlying 36 with
  | none => rw [hq] at h; cases h
  | some d => rw [hq] at h; exact ⟨d, rfl, Option.some.inj h⟩

set_option maxRecDepth 20000 in
set_option maxHeartbeats 1000000 in
theorem Check_calls (kd dp : Int) (lf bm : List Nat) (a : Option Addr) (n c : Nat) (hl : lf.length = 64) (hk : Key bm) (w : World) :
    Calls Tryz.prog 32 #[.agg (proofCells kd dp lf bm (.slice a n c))] w fun e w' => e = .returned (.int .i64 (checkF kd dp lf bm n)) ∧ Below w.heap.size w w' := by
  have HS : Hid ((proofCells kd dp lf bm (.slice a n c)).size = 99) := proofCells_size hl hk.len
  have HBm := Lib.hid (proofCells_bm (kd := kd) (dp := dp) (s := .slice a n c) hl hk.len)
  have R1 := Lib.hid (rule1_calls kd dp lf bm bm (.slice a n c))
  have R2 := Lib.hid (rule2_calls kd dp lf bm bm (.slice a n c))
  have R3 := Lib.hid (rule3_calls kd dp lf bm bm (.slice a n c) hl hk.len)
  have R4 := Lib.hid (rule4_calls kd dp lf bm bm (.slice a n c) hk)
  have R5 := Lib.hid (rule5_calls kd dp lf bm bm a n c hl hk.len hk)
  have F0 : Hid (checkF kd dp lf bm n = if (kd == 0 || kd == 1) = false then 7 else if (decide (0 ≤ dp) && decide (dp ≤ 256)) = false then 5 else if (kd == 1 || decide (lf = List.replicate 64 0)) = false then 5
  else if (lastI bm == dp - 1) = false then 5 else if (((lenN bm : Nat) : Int) == (n : Int)) = false then 5 else 0) := rfl
  have HD : Hid ((decide (0 ≤ dp) && decide (dp ≤ 256)) = true → 0 ≤ dp ∧ dp ≤ 256) := by unfold Hid; simp
  clear hk
  generalize proofCells kd dp lf bm (.slice a n c) = pc at *
  generalize kv bm = bv at *
  generalize (kd == 0 || kd == 1) = c1 at *
  generalize (decide (0 ≤ dp) && decide (dp ≤ 256)) = c2 at *
  generalize (kd == 1 || decide (lf = List.replicate 64 0)) = c3 at *
  generalize (lastI bm == dp - 1) = c4 at *
  generalize (((lenN bm : Nat) : Int) == (n : Int)) = c5 at *
  generalize checkF kd dp lf bm n = R at *
  obtain ⟨dP, hdP, haP⟩ := aggProof
  have st := St.init w
  go_enter Tryz.func32, Tryz.ntmps32
  go_wp2_with (first
    | (refine wpList_boxA st rfl 43 _ rfl pc rfl ?_; intro b1 w1 st1; clear st)
    | (go_at_call 63; refine (rules_calls _).mono ?_; rintro e w2 ⟨rfl, hbel⟩; have st2 := St.call st1 hbel; clear hbel st1))
  go_loopw [6] (fun i wr => ∃ k : Int, 0 ≤ k ∧ k ≤ 5 ∧ i = .int .i64 k ∧ St w.heap.size w [(b1, pc, 43)] wr ∧ Hid ((1 ≤ k → c1 = true) ∧ (2 ≤ k → c2 = true) ∧ (3 ≤ k → c3 = true) ∧ (4 ≤ k → c4 = true) ∧ (5 ≤ k → c5 = true))) (fun i _ => (5 - intOf i).toNat)
  case atStart => exact ⟨0, by omega, by omega, rfl, st2, by unfold Hid; simp⟩
  case round =>
    obtain ⟨k, k0, k1, rfl, st3, hC⟩ := hrel
    clear st2
    obtain rfl | rfl | rfl | rfl | rfl | rfl : k = 0 ∨ k = 1 ∨ k = 2 ∨ k = 3 ∨ k = 4 ∨ k = 5 := by omega
    · have hidx := idxRule1
      have hsz : (Tryz.prog.info? 152).map (·.size) = some (Value.agg (ruleC 106 7)).cells.size := sizeRule
      have hsz2 : (Value.agg (ruleC 106 7)).cells.size = (#[Value.nilFunc, .int .i64 0] : Array Value).size := rfl
      have hr0 : (ruleC 106 7)[0]? = some (.func (.func 106) #[] #[]) := rfl
      have hr1 : (ruleC 106 7)[1]? = some (.int .i64 7) := rfl
      have hone : ∀ u ∈ (Value.agg (ruleC 106 7)).cells.toList, u.oneCell' = true := by decide
      generalize ruleC 106 7 = rc at *
      cases hc : c1
      · go_wp2_with (first
          | (refine wpList_newA st3 rfl 152 rfl _ zeroRule ?_; intro b4 w4 st4; clear st3)
          | (refine wpList_storeR st4 rfl 152 _ _ rfl 0 b4 rfl (.agg rc) rfl _ _ rfl hsz hsz2 hone _ rfl ?_; intro w5 st5; clear st4; have hc0 := (st5.cell (i := 0) rfl 0).trans hr0; have hc1 := (st5.cell (i := 0) rfl 1).trans hr1)
          | (refine wpList_loadR rfl 43 _ rfl b1 rfl _ hdP haP _ _ (st5.at (i := 1) rfl) (sizeProofOf HS.out) ?_)
          | (refine wpList_loadP rfl 36 _ rfl b1 66 32 rfl aggArrE _ _ _ (st5.at (i := 1) rfl) sizeArr0 (by rw [HS.out]; simp) _ HBm.out ?_)
          | (go_at_call 106; refine (R1.out _).mono ?_; rintro e w6 ⟨rfl, hbel⟩; have st6 := St.call st5 hbel; clear hbel st5; have hc2 := (st6.cell (i := 0) rfl 1).trans hr1))
        have hR : R = 7 := by
          have h := F0.out
          simp only [hc] at h
          simpa using h
        go_ret
        exact ⟨by rw [hR]; rfl, st6.below⟩
      · go_wp2_with (first
          | (refine wpList_newA st3 rfl 152 rfl _ zeroRule ?_; intro b4 w4 st4; clear st3)
          | (refine wpList_storeR st4 rfl 152 _ _ rfl 0 b4 rfl (.agg rc) rfl _ _ rfl hsz hsz2 hone _ rfl ?_; intro w5 st5; clear st4; have hc0 := (st5.cell (i := 0) rfl 0).trans hr0; have hc1 := (st5.cell (i := 0) rfl 1).trans hr1)
          | (refine wpList_loadR rfl 43 _ rfl b1 rfl _ hdP haP _ _ (st5.at (i := 1) rfl) (sizeProofOf HS.out) ?_)
          | (refine wpList_loadP rfl 36 _ rfl b1 66 32 rfl aggArrE _ _ _ (st5.at (i := 1) rfl) sizeArr0 (by rw [HS.out]; simp) _ HBm.out ?_)
          | (go_at_call 106; refine (R1.out _).mono ?_; rintro e w6 ⟨rfl, hbel⟩; have st6 := St.call st5 hbel; clear hbel st5; have hc2 := (st6.cell (i := 0) rfl 1).trans hr1))
        go_roundw
        case rel => exact ⟨1, by omega, by omega, rfl, st6.drop, ⟨fun h => trivial, fun h => absurd h (by omega), fun h => absurd h (by omega), fun h => absurd h (by omega), fun h => absurd h (by omega)⟩⟩
        case measure => simp [intOf]
    · have hidx := idxRule2
      have hsz : (Tryz.prog.info? 152).map (·.size) = some (Value.agg (ruleC 107 5)).cells.size := sizeRule
      have hsz2 : (Value.agg (ruleC 107 5)).cells.size = (#[Value.nilFunc, .int .i64 0] : Array Value).size := rfl
      have hr0 : (ruleC 107 5)[0]? = some (.func (.func 107) #[] #[]) := rfl
      have hr1 : (ruleC 107 5)[1]? = some (.int .i64 5) := rfl
      have hone : ∀ u ∈ (Value.agg (ruleC 107 5)).cells.toList, u.oneCell' = true := by decide
      generalize ruleC 107 5 = rc at *
      cases hc : c2
      · go_wp2_with (first
          | (refine wpList_newA st3 rfl 152 rfl _ zeroRule ?_; intro b4 w4 st4; clear st3)
          | (refine wpList_storeR st4 rfl 152 _ _ rfl 0 b4 rfl (.agg rc) rfl _ _ rfl hsz hsz2 hone _ rfl ?_; intro w5 st5; clear st4; have hc0 := (st5.cell (i := 0) rfl 0).trans hr0; have hc1 := (st5.cell (i := 0) rfl 1).trans hr1)
          | (refine wpList_loadR rfl 43 _ rfl b1 rfl _ hdP haP _ _ (st5.at (i := 1) rfl) (sizeProofOf HS.out) ?_)
          | (refine wpList_loadP rfl 36 _ rfl b1 66 32 rfl aggArrE _ _ _ (st5.at (i := 1) rfl) sizeArr0 (by rw [HS.out]; simp) _ HBm.out ?_)
          | (go_at_call 107; refine (R2.out _).mono ?_; rintro e w6 ⟨rfl, hbel⟩; have st6 := St.call st5 hbel; clear hbel st5; have hc2 := (st6.cell (i := 0) rfl 1).trans hr1))
        have hR : R = 5 := by
          have h := F0.out
          simp only [hc, hC.out.1 (by omega)] at h
          simpa using h
        go_ret
        exact ⟨by rw [hR]; rfl, st6.below⟩
      · go_wp2_with (first
          | (refine wpList_newA st3 rfl 152 rfl _ zeroRule ?_; intro b4 w4 st4; clear st3)
          | (refine wpList_storeR st4 rfl 152 _ _ rfl 0 b4 rfl (.agg rc) rfl _ _ rfl hsz hsz2 hone _ rfl ?_; intro w5 st5; clear st4; have hc0 := (st5.cell (i := 0) rfl 0).trans hr0; have hc1 := (st5.cell (i := 0) rfl 1).trans hr1)
          | (refine wpList_loadR rfl 43 _ rfl b1 rfl _ hdP haP _ _ (st5.at (i := 1) rfl) (sizeProofOf HS.out) ?_)
          | (refine wpList_loadP rfl 36 _ rfl b1 66 32 rfl aggArrE _ _ _ (st5.at (i := 1) rfl) sizeArr0 (by rw [HS.out]; simp) _ HBm.out ?_)
          | (go_at_call 107; refine (R2.out _).mono ?_; rintro e w6 ⟨rfl, hbel⟩; have st6 := St.call st5 hbel; clear hbel st5; have hc2 := (st6.cell (i := 0) rfl 1).trans hr1))
        go_roundw
        case rel => exact ⟨2, by omega, by omega, rfl, st6.drop, ⟨fun h => hC.out.1 (by omega), fun h => trivial, fun h => absurd h (by omega), fun h => absurd h (by omega), fun h => absurd h (by omega)⟩⟩
        case measure => simp [intOf]
    · have hidx := idxRule3
      have hsz : (Tryz.prog.info? 152).map (·.size) = some (Value.agg (ruleC 108 5)).cells.size := sizeRule
      have hsz2 : (Value.agg (ruleC 108 5)).cells.size = (#[Value.nilFunc, .int .i64 0] : Array Value).size := rfl
      have hr0 : (ruleC 108 5)[0]? = some (.func (.func 108) #[] #[]) := rfl
      have hr1 : (ruleC 108 5)[1]? = some (.int .i64 5) := rfl
      have hone : ∀ u ∈ (Value.agg (ruleC 108 5)).cells.toList, u.oneCell' = true := by decide
      generalize ruleC 108 5 = rc at *
      cases hc : c3
      · go_wp2_with (first
          | (refine wpList_newA st3 rfl 152 rfl _ zeroRule ?_; intro b4 w4 st4; clear st3)
          | (refine wpList_storeR st4 rfl 152 _ _ rfl 0 b4 rfl (.agg rc) rfl _ _ rfl hsz hsz2 hone _ rfl ?_; intro w5 st5; clear st4; have hc0 := (st5.cell (i := 0) rfl 0).trans hr0; have hc1 := (st5.cell (i := 0) rfl 1).trans hr1)
          | (refine wpList_loadR rfl 43 _ rfl b1 rfl _ hdP haP _ _ (st5.at (i := 1) rfl) (sizeProofOf HS.out) ?_)
          | (refine wpList_loadP rfl 36 _ rfl b1 66 32 rfl aggArrE _ _ _ (st5.at (i := 1) rfl) sizeArr0 (by rw [HS.out]; simp) _ HBm.out ?_)
          | (go_at_call 108; refine (R3.out _).mono ?_; rintro e w6 ⟨rfl, hbel⟩; have st6 := St.call st5 hbel; clear hbel st5; have hc2 := (st6.cell (i := 0) rfl 1).trans hr1))
        have hR : R = 5 := by
          have h := F0.out
          simp only [hc, hC.out.1 (by omega), hC.out.2.1 (by omega)] at h
          simpa using h
        go_ret
        exact ⟨by rw [hR]; rfl, st6.below⟩
      · go_wp2_with (first
          | (refine wpList_newA st3 rfl 152 rfl _ zeroRule ?_; intro b4 w4 st4; clear st3)
          | (refine wpList_storeR st4 rfl 152 _ _ rfl 0 b4 rfl (.agg rc) rfl _ _ rfl hsz hsz2 hone _ rfl ?_; intro w5 st5; clear st4; have hc0 := (st5.cell (i := 0) rfl 0).trans hr0; have hc1 := (st5.cell (i := 0) rfl 1).trans hr1)
          | (refine wpList_loadR rfl 43 _ rfl b1 rfl _ hdP haP _ _ (st5.at (i := 1) rfl) (sizeProofOf HS.out) ?_)
          | (refine wpList_loadP rfl 36 _ rfl b1 66 32 rfl aggArrE _ _ _ (st5.at (i := 1) rfl) sizeArr0 (by rw [HS.out]; simp) _ HBm.out ?_)
          | (go_at_call 108; refine (R3.out _).mono ?_; rintro e w6 ⟨rfl, hbel⟩; have st6 := St.call st5 hbel; clear hbel st5; have hc2 := (st6.cell (i := 0) rfl 1).trans hr1))
        go_roundw
        case rel => exact ⟨3, by omega, by omega, rfl, st6.drop, ⟨fun h => hC.out.1 (by omega), fun h => hC.out.2.1 (by omega), fun h => trivial, fun h => absurd h (by omega), fun h => absurd h (by omega)⟩⟩
        case measure => simp [intOf]
    · have hidx := idxRule4
      have hsz : (Tryz.prog.info? 152).map (·.size) = some (Value.agg (ruleC 109 5)).cells.size := sizeRule
      have hsz2 : (Value.agg (ruleC 109 5)).cells.size = (#[Value.nilFunc, .int .i64 0] : Array Value).size := rfl
      have hr0 : (ruleC 109 5)[0]? = some (.func (.func 109) #[] #[]) := rfl
      have hr1 : (ruleC 109 5)[1]? = some (.int .i64 5) := rfl
      have hone : ∀ u ∈ (Value.agg (ruleC 109 5)).cells.toList, u.oneCell' = true := by decide
      generalize ruleC 109 5 = rc at *
      cases hc : c4
      · go_wp2_with (first
          | (refine wpList_newA st3 rfl 152 rfl _ zeroRule ?_; intro b4 w4 st4; clear st3)
          | (refine wpList_storeR st4 rfl 152 _ _ rfl 0 b4 rfl (.agg rc) rfl _ _ rfl hsz hsz2 hone _ rfl ?_; intro w5 st5; clear st4; have hc0 := (st5.cell (i := 0) rfl 0).trans hr0; have hc1 := (st5.cell (i := 0) rfl 1).trans hr1)
          | (refine wpList_loadR rfl 43 _ rfl b1 rfl _ hdP haP _ _ (st5.at (i := 1) rfl) (sizeProofOf HS.out) ?_)
          | (refine wpList_loadP rfl 36 _ rfl b1 66 32 rfl aggArrE _ _ _ (st5.at (i := 1) rfl) sizeArr0 (by rw [HS.out]; simp) _ HBm.out ?_)
          | (go_at_call 109; refine (R4.out (HD.out (hC.out.2.1 (by omega))).1 (HD.out (hC.out.2.1 (by omega))).2 _).mono ?_; rintro e w6 ⟨rfl, hbel⟩; have st6 := St.call st5 hbel; clear hbel st5; have hc2 := (st6.cell (i := 0) rfl 1).trans hr1))
        have hR : R = 5 := by
          have h := F0.out
          simp only [hc, hC.out.1 (by omega), hC.out.2.1 (by omega), hC.out.2.2.1 (by omega)] at h
          simpa using h
        go_ret
        exact ⟨by rw [hR]; rfl, st6.below⟩
      · go_wp2_with (first
          | (refine wpList_newA st3 rfl 152 rfl _ zeroRule ?_; intro b4 w4 st4; clear st3)
          | (refine wpList_storeR st4 rfl 152 _ _ rfl 0 b4 rfl (.agg rc) rfl _ _ rfl hsz hsz2 hone _ rfl ?_; intro w5 st5; clear st4; have hc0 := (st5.cell (i := 0) rfl 0).trans hr0; have hc1 := (st5.cell (i := 0) rfl 1).trans hr1)
          | (refine wpList_loadR rfl 43 _ rfl b1 rfl _ hdP haP _ _ (st5.at (i := 1) rfl) (sizeProofOf HS.out) ?_)
          | (refine wpList_loadP rfl 36 _ rfl b1 66 32 rfl aggArrE _ _ _ (st5.at (i := 1) rfl) sizeArr0 (by rw [HS.out]; simp) _ HBm.out ?_)
          | (go_at_call 109; refine (R4.out (HD.out (hC.out.2.1 (by omega))).1 (HD.out (hC.out.2.1 (by omega))).2 _).mono ?_; rintro e w6 ⟨rfl, hbel⟩; have st6 := St.call st5 hbel; clear hbel st5; have hc2 := (st6.cell (i := 0) rfl 1).trans hr1))
        go_roundw
        case rel => exact ⟨4, by omega, by omega, rfl, st6.drop, ⟨fun h => hC.out.1 (by omega), fun h => hC.out.2.1 (by omega), fun h => hC.out.2.2.1 (by omega), fun h => trivial, fun h => absurd h (by omega)⟩⟩
        case measure => simp [intOf]
    · have hidx := idxRule5
      have hsz : (Tryz.prog.info? 152).map (·.size) = some (Value.agg (ruleC 111 5)).cells.size := sizeRule
      have hsz2 : (Value.agg (ruleC 111 5)).cells.size = (#[Value.nilFunc, .int .i64 0] : Array Value).size := rfl
      have hr0 : (ruleC 111 5)[0]? = some (.func (.func 111) #[] #[]) := rfl
      have hr1 : (ruleC 111 5)[1]? = some (.int .i64 5) := rfl
      have hone : ∀ u ∈ (Value.agg (ruleC 111 5)).cells.toList, u.oneCell' = true := by decide
      generalize ruleC 111 5 = rc at *
      cases hc : c5
      · go_wp2_with (first
          | (refine wpList_newA st3 rfl 152 rfl _ zeroRule ?_; intro b4 w4 st4; clear st3)
          | (refine wpList_storeR st4 rfl 152 _ _ rfl 0 b4 rfl (.agg rc) rfl _ _ rfl hsz hsz2 hone _ rfl ?_; intro w5 st5; clear st4; have hc0 := (st5.cell (i := 0) rfl 0).trans hr0; have hc1 := (st5.cell (i := 0) rfl 1).trans hr1)
          | (refine wpList_loadR rfl 43 _ rfl b1 rfl _ hdP haP _ _ (st5.at (i := 1) rfl) (sizeProofOf HS.out) ?_)
          | (refine wpList_loadP rfl 36 _ rfl b1 66 32 rfl aggArrE _ _ _ (st5.at (i := 1) rfl) sizeArr0 (by rw [HS.out]; simp) _ HBm.out ?_)
          | (go_at_call 111; refine (R5.out _).mono ?_; rintro e w6 ⟨rfl, hbel⟩; have st6 := St.call st5 hbel; clear hbel st5; have hc2 := (st6.cell (i := 0) rfl 1).trans hr1))
        have hR : R = 5 := by
          have h := F0.out
          simp only [hc, hC.out.1 (by omega), hC.out.2.1 (by omega), hC.out.2.2.1 (by omega), hC.out.2.2.2.1 (by omega)] at h
          simpa using h
        go_ret
        exact ⟨by rw [hR]; rfl, st6.below⟩
      · go_wp2_with (first
          | (refine wpList_newA st3 rfl 152 rfl _ zeroRule ?_; intro b4 w4 st4; clear st3)
          | (refine wpList_storeR st4 rfl 152 _ _ rfl 0 b4 rfl (.agg rc) rfl _ _ rfl hsz hsz2 hone _ rfl ?_; intro w5 st5; clear st4; have hc0 := (st5.cell (i := 0) rfl 0).trans hr0; have hc1 := (st5.cell (i := 0) rfl 1).trans hr1)
          | (refine wpList_loadR rfl 43 _ rfl b1 rfl _ hdP haP _ _ (st5.at (i := 1) rfl) (sizeProofOf HS.out) ?_)
          | (refine wpList_loadP rfl 36 _ rfl b1 66 32 rfl aggArrE _ _ _ (st5.at (i := 1) rfl) sizeArr0 (by rw [HS.out]; simp) _ HBm.out ?_)
          | (go_at_call 111; refine (R5.out _).mono ?_; rintro e w6 ⟨rfl, hbel⟩; have st6 := St.call st5 hbel; clear hbel st5; have hc2 := (st6.cell (i := 0) rfl 1).trans hr1))
        go_roundw
        case rel => exact ⟨5, by omega, by omega, rfl, st6.drop, ⟨fun h => hC.out.1 (by omega), fun h => hC.out.2.1 (by omega), fun h => hC.out.2.2.1 (by omega), fun h => hC.out.2.2.2.1 (by omega), fun h => trivial⟩⟩
        case measure => simp [intOf]
    · have hR : R = 0 := by
        have h := F0.out
        simp only [hC.out.1 (by omega), hC.out.2.1 (by omega), hC.out.2.2.1 (by omega), hC.out.2.2.2.1 (by omega), hC.out.2.2.2.2 (by omega)] at h
        simpa using h
      go_wp2
      go_ret
      exact ⟨by rw [hR]; rfl, st3.below⟩

end Go.Proofs.YtlcngapphloafaaGreatDoor
end

/- Package codec: Size and Encode of a proof that is one leaf. -/
section
open Go Go.RowKit
namespace Go.Proofs.YtlcngapphloafaaGreatDoor
attribute [local irreducible] Inv.wpInv Mix.wpUp

theorem check_leaf (lf : List Nat) : checkF 1 0 lf zero32 0 = 0 := by
  have h1 : lastI zero32 = -1 := by decide +kernel
  have h2 : lenN zero32 = 0 := by decide +kernel
  unfold checkF
  simp [h1, h2]

set_option maxRecDepth 20000 in
set_option maxHeartbeats 1000000 in
theorem Size_calls (lf : List Nat) (hl : lf.length = 64) (w : World) :
    Calls Tryz.prog 55 #[.agg (proofCells 1 0 lf zero32 (.slice none 0 0))] w fun e w' => e = .returned (.int .i64 100) ∧ Below w.heap.size w w' := by
  have HC := Lib.hid (fun wx => Check_calls 1 0 lf zero32 none 0 0 hl key_zero wx)
  rw [check_leaf lf] at HC
  have HS : Hid ((proofCells 1 0 lf zero32 (.slice none 0 0)).size = 99) := proofCells_size hl rfl
  have H0 : Hid ((proofCells 1 0 lf zero32 (.slice none 0 0))[0]? = some (.int .i64 1)) := proofCells_kind
  have H98 : Hid ((proofCells 1 0 lf zero32 (.slice none 0 0))[98]? = some (.slice none 0 0)) := proofCells_sib hl rfl
  generalize proofCells 1 0 lf zero32 (.slice none 0 0) = pc at *
  obtain ⟨dP, hdP, haP⟩ := aggProof
  have st := St.init w
  go_enter Tryz.func55, Tryz.ntmps55
  go_wp2_with (first
    | (refine wpList_boxA st rfl 43 _ rfl pc rfl ?_; intro b1 w1 st1; clear st)
    | (refine wpList_loadR rfl 43 _ rfl b1 rfl _ hdP haP _ _ (st1.at (i := 0) rfl) (sizeProofOf HS.out) ?_)
    | (go_at_call 32; refine (HC.out _).mono ?_; rintro e w2 ⟨rfl, hbel⟩; have st2 := St.call st1 hbel; clear hbel st1; have hc0 := (st2.cell (i := 0) rfl 0).trans H0.out; have hc98 := (st2.cell (i := 0) rfl 98).trans H98.out))
  go_ret
  exact ⟨rfl, st2.below⟩

end Go.Proofs.YtlcngapphloafaaGreatDoor
end
