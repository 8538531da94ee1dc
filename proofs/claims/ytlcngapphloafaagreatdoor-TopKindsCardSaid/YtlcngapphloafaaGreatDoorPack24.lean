/- Parts of the proof that are used by the claim: Ver6, Ver7, Top1, Top2, Runs. No condition is added here. -/
import Derived.Test.YtlcngapphloafaaGreatDoorPack22
import Derived.Test.YtlcngapphloafaaGreatDoorPack23
import Derived.Test.YtlcngapphloafaaGreatDoorPack17

/- Package verify: the last two steps between the steps. -/
section
open Go Go.RowKit
namespace Go.Proofs.YtlcngapphloafaaGreatDoor
attribute [local irreducible] Inv.wpInv Mix.wpUp

section
variable {KK : List Int} {ra ka : Option Addr} {rc kc : Nat} {vs bs : Value} {rr kk lv lb : List Nat} {hb cb : Nat} {bits c : Int} {w : World}
variable (V : VGiv KK ra ka rc kc vs bs rr kk lv lb hb cb bits c w) (p : Bool) (g Kb : Nat) (hne : Kb ≠ cb)
include V hne
theorem ans4 (wr : World) (h : VI ra ka rc kc vs bs rr kk lb hb cb c w p g Kb 4 wr) : Calls Tryz.prog 99 #[.pointer (some ⟨Kb, 0, none⟩)] wr (VAns ra ka rc kc vs bs rr kk lb hb cb c w p g Kb (GoodV KK bits p rr kk lv lb) 4) := by
  obtain ⟨c', pc, st, h1, h2, h3, h4, h5, h6⟩ := h
  have hk32 := h5 (by omega)
  have hr32 := h4 (by omega)
  rcases h6 (by omega) with ⟨_, hok, s, rfl, hrd⟩ | ⟨h7, _⟩
  · have h3' : c' ≤ c := by unfold upTo at h3; simp at h3; omega
    have hks := StH.rd st V.hh V.hk
    have hrow := st.at (i := 1) rfl
    rw [hk32] at hks hrow
    have hcw := (StH.has st V.hh).c
    have hSup := supports_calls KK _ bs s p (kdOf lb) (dpOf lb) (lfOf lb) (bmOf lb) kk lv ka kc vs (lfOf_len hok) (lfOf_lt V.bb) (bmOf_key hok V.bb).len ⟨hk32, V.kb⟩ V.vb V.vl Kb hb cb bits c' wr (StH.has st V.hh) V.hB (by have := V.hc; omega) (StH.hasK st V.hh V.hK) hks (StH.rd st V.hh V.hv) hne hrow
    refine (Step5_of Kb wr (supF (kdOf lb) (dpOf lb) (lfOf lb) kk (dgV KK bits lv p) p) (fun w' => ∃ c'', c' ≤ c'' ∧ c'' ≤ c' + 1 ∧ wr.grownBy w' (some cb) ∧ HasH hb cb bits c'' w') (hSup.mono ?_)).mono ?_
    · rintro e w' ⟨c'', rfl, ha, hb', hg, hh'⟩
      exact ⟨rfl, c'', ha, hb', hg, hh'⟩
    · rintro e w' ⟨rfl, c'', ha, hb', hg, hh'⟩
      have st' := StH.sum st V.hh hg hh'
      refine ⟨_, c'', rfl, ?_, by omega, by omega, St.few st' (by simp) (by simp), fun h0 => ⟨c'', _, st', h1, by omega, by simp [upTo]; omega, fun _ => hr32, fun _ => hk32, fun _ => .inl ⟨rfl, hok, s, rfl, hrd.turn hcw hg⟩⟩, fun hG => if_pos hG.2.2.2.2.1⟩
      split <;> simp [Known]
  · omega
theorem ans5 (wr : World) (h : VI ra ka rc kc vs bs rr kk lb hb cb c w p g Kb 5 wr) : Calls Tryz.prog 101 #[.pointer (some ⟨Kb, 0, none⟩)] wr (VAns ra ka rc kc vs bs rr kk lb hb cb c w p g Kb (GoodV KK bits p rr kk lv lb) 5) := by
  obtain ⟨c', pc, st, h1, h2, h3, h4, h5, h6⟩ := h
  have hk32 := h5 (by omega)
  have hr32 := h4 (by omega)
  rcases h6 (by omega) with ⟨_, hok, s, rfl, hrd⟩ | ⟨h7, _⟩
  · have h3' : c' ≤ c + 1 := by unfold upTo at h3; simpa using h3
    have hks := StH.rd st V.hh V.hk
    have hrs := StH.rd st V.hh V.hr
    have hrow := st.at (i := 1) rfl
    rw [hk32] at hks
    rw [hr32] at hrs
    rw [hk32, hr32] at hrow
    have hcw := (StH.has st V.hh).c
    obtain ⟨av, cv, rfl⟩ := hrd.open
    have hck := hok.2.2.2.2.2
    have hdp : dpOf lb ≤ 256 := by have := (check_ok hck).2.1; omega
    have hLe := leads_calls KK bs p (kdOf lb) (dpOf lb) (lfOf lb) (bmOf lb) (restOf lb) kk rr ra ka av rc kc _ cv vs (lfOf_len hok) (lfOf_lt V.bb) (bmOf_key hok V.bb) ⟨hk32, V.kb⟩ hr32 (restOf_lt V.bb) hck Kb hb cb bits c' wr (StH.has st V.hh) V.hB (by have := V.hc; omega) (StH.hasK st V.hh V.hK) hks hrs hrd hne hrow
    refine (Step6_of Kb wr (decide (belF KK bits (endF (kdOf lb) (lfOf lb)) kk (expF (hashF KK bits [3]) (dpOf lb) (setB (bmOf lb)) (restOf lb)) (dpOf lb) (dpOf lb) = rr)) (fun w' => wr.grownBy w' (some cb) ∧ HasH hb cb bits (c' + 2 + (dpOf lb : Nat)) w') (hLe.mono ?_)).mono ?_
    · rintro e w' ⟨rfl, hg, hh'⟩
      exact ⟨rfl, hg, hh'⟩
    · rintro e w' ⟨rfl, hg, hh'⟩
      have st' := StH.sum st V.hh hg hh'
      refine ⟨_, _, rfl, ?_, by omega, by omega, St.few st' (by simp) (by simp), fun h0 => ⟨_, _, st', h1, by omega, by simp [upTo]; omega, fun _ => hr32, fun _ => hk32, fun _ => .inl ⟨rfl, hok, _, rfl, hrd.turn hcw hg⟩⟩, fun hG => if_pos (decide_eq_true hG.2.2.2.2.2)⟩
      split <;> simp [Known]
  · omega
end

/-- The zero proof. -/
def zproof : Array Value := proofCells 0 0 (List.replicate 64 0) zero32 (.slice none 0 0)
theorem builtCheck (h ra ba : Option Addr) (rn rc bn bc : Nat) (k v : Value) (p : Bool) : Tryz.prog.built 131 [(0, .pointer h), (1, .slice ra rn rc), (2, .agg #[k, v, .bool p]), (3, .slice ba bn bc)] = some (ckR (.pointer h) (.slice ra rn rc) k v p (.slice ba bn bc) zproof) := by kernel_rfl
theorem aggClaim : ∃ d, Tryz.prog.underlying 24 = some d ∧ aggB d = true := by
  have h : (Tryz.prog.underlying 24).map aggB = some true := by kernel_rfl
  cases hq : Tryz.prog.underlying 24 with
  | none => rw [hq] at h; cases h
  | some d => rw [hq] at h; exact ⟨d, rfl, by simpa using h⟩
theorem sizeClaim : (Tryz.prog.info? 24).map (·.size) = some 3 := by kernel_rfl
theorem aggStep : ∃ d, Tryz.prog.underlying 136 = some d ∧ aggB d = true := by
  have h : (Tryz.prog.underlying 136).map aggB = some true := by kernel_rfl
  cases hq : Tryz.prog.underlying 136 with
  | none => rw [hq] at h; cases h
  | some d => rw [hq] at h; exact ⟨d, rfl, by simpa using h⟩
theorem zeroStep1 : (Tryz.prog.info? 136).bind (·.zero) = some (.agg #[.nilFunc]) := zeroStep

section
variable {KK : List Int} {ra ka va ba : Option Addr} {rc kc vc bc : Nat} {rr kk lv lb : List Nat} {hb cb : Nat} {bits c : Int} {w : World}
/-- What Verify answers. -/
def VPost (G : Prop) (rr kk : List Nat) (hb cb : Nat) (bits c : Int) (w : World) (e : Ending) (w' : World) : Prop :=
  ∃ x c', Known x ∧ c ≤ c' ∧ c' ≤ c + 259 ∧ w.grownBy w' (some cb) ∧ HasH hb cb bits c' w' ∧ (G → x = 0) ∧
    ((x = 0 ∧ e = .returned .nilIface ∧ rr.length = 32 ∧ kk.length = 32) ∨ (x ≠ 0 ∧ ∃ b op n, e = .returned (.iface 208 (.pointer (some ⟨b, 0, none⟩))) ∧ w.heap.size ≤ b ∧ w'.heap[b]? = some (.cells #[.string op, .int .i64 n, .iface 31 (.int .i64 x)] 210 (0, 0))))

set_option maxRecDepth 20000 in
set_option maxHeartbeats 4000000 in
theorem Verify_calls (V : VGiv KK ra ka rc kc (.slice va lv.length vc) (.slice ba lb.length bc) rr kk lv lb hb cb bits c w) (p : Bool) :
    Calls Tryz.prog 27 #[.pointer (some ⟨hb, 0, none⟩), .slice ra rr.length rc, .agg #[.slice ka kk.length kc, .slice va lv.length vc, .bool p], .slice ba lb.length bc] w (VPost (GoodV KK bits p rr kk lv lb) rr kk hb cb bits c w) := by
  have hA0 := Lib.hid (fun g Kb wr h => ans0 V p g Kb wr h)
  have hA1 := Lib.hid (fun g Kb wr h => ans1 V p g Kb wr h)
  have hA2 := Lib.hid (fun g Kb wr h => ans2 V p g Kb wr h)
  have hA3 := Lib.hid (fun g Kb wr h => ans3 V p g Kb wr h)
  have hA4 := Lib.hid (fun g Kb hne wr h => ans4 V p g Kb hne wr h)
  have hA5 := Lib.hid (fun g Kb hne wr h => ans5 V p g Kb hne wr h)
  have HH := Lib.hid V.hh
  have HVI := Lib.hid (fun g Kb j wr (w2 : World) (h : VI ra ka rc kc (.slice va lv.length vc) (.slice ba lb.length bc) rr kk lb hb cb c w p g Kb j wr) (hb' : Below wr.heap.size wr w2) => VI.call h hb')
  have HP : Hid (∀ x c' w6 w' b op n, Known x → c ≤ c' → c' ≤ c + 259 → StH w cb c' [] w6 → Below w6.heap.size w6 w' → x ≠ 0 → (GoodV KK bits p rr kk lv lb → x = 0) → w6.heap.size ≤ b → w'.heap[b]? = some (.cells #[.string op, .int .i64 n, .iface 31 (.int .i64 x)] 210 (0, 0)) → VPost (GoodV KK bits p rr kk lv lb) rr kk hb cb bits c w (.returned (.iface 208 (.pointer (some ⟨b, 0, none⟩)))) w') := fun x c' w6 w' b op n h1 h2 h3 h4 hbl h5 hG hle h6 => ⟨x, c', h1, h2, h3, StH.grown (St.call h4 hbl), StH.has (St.call h4 hbl) V.hh, hG, .inr ⟨h5, b, op, n, rfl, Nat.le_trans h4.size hle, h6⟩⟩
  have HP0 : Hid (∀ w' g Kb, VI ra ka rc kc (.slice va lv.length vc) (.slice ba lb.length bc) rr kk lb hb cb c w p g Kb 6 w' → VPost (GoodV KK bits p rr kk lv lb) rr kk hb cb bits c w (.returned .nilIface) w') := fun w' g Kb ⟨c', pc, st, h1, h2, h3, h4, h5, h6⟩ => ⟨0, c', .inl rfl, h2, by simpa [upTo] using h3, StH.grown st, StH.has st V.hh, fun _ => rfl, .inl ⟨rfl, rfl, h4 (by omega), h5 (by omega)⟩⟩
  have HBC := Lib.hid (builtCheck (some ⟨hb, 0, none⟩) ra ba rr.length rc lb.length bc (.slice ka kk.length kc) (.slice va lv.length vc) p)
  have hzs : Hid (zproof.size = 99) := proofCells_size zero64_eq rfl
  have hcl : cb < w.heap.size := heap_lt V.hh.c
  generalize VPost (GoodV KK bits p rr kk lv lb) rr kk hb cb bits c w = R at *
  have HI0 : Hid (∀ g Kb wr, StH w cb c [(g, stepFs, 136), (Kb, ckR (.pointer (some ⟨hb, 0, none⟩)) (.slice ra rr.length rc) (.slice ka kk.length kc) (.slice va lv.length vc) p (.slice ba lb.length bc) zproof, 131)] wr → VI ra ka rc kc (.slice va lv.length vc) (.slice ba lb.length bc) rr kk lb hb cb c w p g Kb 0 wr) := fun g Kb wr h => ⟨c, zproof, h, hzs.out, Int.le_refl _, by simp [upTo], fun h => by omega, fun h => by omega, fun h => by omega⟩
  have HG : Hid (∀ g Kb j wr, VI ra ka rc kc (.slice va lv.length vc) (.slice ba lb.length bc) rr kk lb hb cb c w p g Kb j wr → wr.heap[g]? = some (.cells stepFs 136 (0, 0))) := fun g Kb j wr ⟨c', pc, st, _⟩ => st.at (i := 0) rfl
  clear V
  generalize hIE : VI ra ka rc kc (.slice va lv.length vc) (.slice ba lb.length bc) rr kk lb hb cb c w p = I at *
  have HIE := Lib.hid hIE
  clear hIE
  have st := St.init w
  have st0 := StH.init HH.out st
  clear st
  go_enter Tryz.func27, Tryz.ntmps27
  go_upto_region 2 with (first
    | (refine wpList_build rfl 131 _ rfl [(0, .pointer (some ⟨hb, 0, none⟩)), (1, .slice ra rr.length rc), (2, .agg #[.slice ka kk.length kc, .slice va lv.length vc, .bool p]), (3, .slice ba lb.length bc)] ?_ _ HBC.out ?_; (· first | (simp [Act.eval]; done) | rfl)))
  have st1 := (st0.new #[.slice ka kk.length kc, .slice va lv.length vc, .bool p] 24).new (ckR (.pointer (some ⟨hb, 0, none⟩)) (.slice ra rr.length rc) (.slice ka kk.length kc) (.slice va lv.length vc) p (.slice ba lb.length bc) zproof) 131
  rw [World.size_alloc] at st1
  generalize (w.alloc (.cells #[.slice ka kk.length kc, .slice va lv.length vc, .bool p] 24)).alloc (.cells (ckR (.pointer (some ⟨hb, 0, none⟩)) (.slice ra rr.length rc) (.slice ka kk.length kc) (.slice va lv.length vc) p (.slice ba lb.length bc) zproof) 131) = w2 at *
  have hne : w.heap.size + 1 ≠ cb := by omega
  generalize w.heap.size + 1 = Kb at *
  have st2 : StH w cb c [(Kb, ckR (.pointer (some ⟨hb, 0, none⟩)) (.slice ra rr.length rc) (.slice ka kk.length kc) (.slice va lv.length vc) p (.slice ba lb.length bc) zproof, 131)] w2 := St.few st1 (by simp) (by simp)
  clear st0 st1
  go_wp2_with (first
    | (go_at_call 57; refine (steps_calls _).mono ?_; rintro e w3 ⟨g, rfl, stw⟩; have st3 := St.join st2 stw; have hI := HI0.out g Kb _ st3; clear st2 stw st3))
  go_loopw [21] (fun i wr => ∃ j : Int, 0 ≤ j ∧ j ≤ 6 ∧ i = .int .i64 j ∧ I g Kb j.toNat wr) (fun i _ => (6 - intOf i).toNat)
  case atStart => exact ⟨0, by omega, by omega, rfl, hI⟩
  case round =>
    obtain ⟨j, j0, j6, rfl, hI'⟩ := hrel
    clear hI
    have hg := HG.out g Kb _ wr hI'
    have stR := St.init wr
    by_cases e6 : j = 6
    · subst e6
      go_wp2
      exact HP0.out _ _ _ hI'
    by_cases e0 : j = 0
    · subst e0
      clear hA1 hA2 hA3 hA4 hA5 HBC hzs HI0 HG HP0 HH hcl
      have hg0 : wr.cell? ⟨g, 0, none⟩ = some (.func (.func 94) #[] #[]) := by simp [World.cell?, hg, stepFs]
      go_upto_region 6 with (first
        | (refine wpList_loadP rfl 136 _ rfl g 0 1 rfl aggStep _ _ _ hg sizeStep (by decide) (#[.func (.func 94) #[] #[]]) rfl ?_)
        | (refine wpList_newA2 stR rfl 136 rfl _ zeroStep ?_; intro b11 w4 st4 _ _; clear stR)
        | (refine wpList_storeP st4 rfl 136 _ _ rfl 0 b11 0 rfl (.agg #[.func (.func 94) #[] #[]]) rfl _ _ rfl sizeStep (Nat.le_refl 1) (by simp [Value.cells, Value.oneCell']) (#[.func (.func 94) #[] #[]]) rfl _ rfl ?_; intro w5 st5 _; clear st4; have hc11 : w5.cell? ⟨b11, 0, none⟩ = some (.func (.func 94) #[] #[]) := st5.cell (i := 0) rfl 0)
        | (go_at_call 94; refine (hA0.out g Kb _ (HVI.out g Kb 0 wr _ hI' st5.below)).mono ?_; rintro e w6 ⟨x, c', rfl, hk, h1, h2, hst, hn, hgd⟩; have Hgd := Lib.hid hgd; clear st5 hc11; have Hk := Lib.hid hk; have H1 := Lib.hid h1; have H2 := Lib.hid h2; have Hn := Lib.hid hn; clear hk h1 h2 hn hgd))
      by_cases hx : x = 0
      · subst hx
        go_wp2
        go_roundw
        case rel => exact ⟨1, by omega, by omega, rfl, HIE.out ▸ Hn.out rfl⟩
        case measure => simp [intOf]
      · go_wp2_with (first
          | (go_at_call 58; refine (New_calls _ _ _ _ _).mono ?_; rintro e w7 ⟨bF, rfl, hle, hrow, hbel⟩))
        exact HP.out x c' w6 w7 bF _ _ Hk.out H1.out H2.out hst hbel hx Hgd.out hle hrow
    by_cases e1 : j = 1
    · subst e1
      clear hA0 hA2 hA3 hA4 hA5 HBC hzs HI0 HG HP0 HH hcl
      have hg0 : wr.cell? ⟨g, 1, none⟩ = some (.func (.func 96) #[] #[]) := by simp [World.cell?, hg, stepFs]
      go_upto_region 6 with (first
        | (refine wpList_loadP rfl 136 _ rfl g 1 1 rfl aggStep _ _ _ hg sizeStep (by decide) (#[.func (.func 96) #[] #[]]) rfl ?_)
        | (refine wpList_newA2 stR rfl 136 rfl _ zeroStep ?_; intro b11 w4 st4 _ _; clear stR)
        | (refine wpList_storeP st4 rfl 136 _ _ rfl 0 b11 0 rfl (.agg #[.func (.func 96) #[] #[]]) rfl _ _ rfl sizeStep (Nat.le_refl 1) (by simp [Value.cells, Value.oneCell']) (#[.func (.func 96) #[] #[]]) rfl _ rfl ?_; intro w5 st5 _; clear st4; have hc11 : w5.cell? ⟨b11, 0, none⟩ = some (.func (.func 96) #[] #[]) := st5.cell (i := 0) rfl 0)
        | (go_at_call 96; refine (hA1.out g Kb _ (HVI.out g Kb 1 wr _ hI' st5.below)).mono ?_; rintro e w6 ⟨x, c', rfl, hk, h1, h2, hst, hn, hgd⟩; have Hgd := Lib.hid hgd; clear st5 hc11; have Hk := Lib.hid hk; have H1 := Lib.hid h1; have H2 := Lib.hid h2; have Hn := Lib.hid hn; clear hk h1 h2 hn hgd))
      by_cases hx : x = 0
      · subst hx
        go_wp2
        go_roundw
        case rel => exact ⟨2, by omega, by omega, rfl, HIE.out ▸ Hn.out rfl⟩
        case measure => simp [intOf]
      · go_wp2_with (first
          | (go_at_call 58; refine (New_calls _ _ _ _ _).mono ?_; rintro e w7 ⟨bF, rfl, hle, hrow, hbel⟩))
        exact HP.out x c' w6 w7 bF _ _ Hk.out H1.out H2.out hst hbel hx Hgd.out hle hrow
    by_cases e2 : j = 2
    · subst e2
      clear hA0 hA1 hA3 hA4 hA5 HBC hzs HI0 HG HP0 HH hcl
      have hg0 : wr.cell? ⟨g, 2, none⟩ = some (.func (.func 97) #[] #[]) := by simp [World.cell?, hg, stepFs]
      go_upto_region 6 with (first
        | (refine wpList_loadP rfl 136 _ rfl g 2 1 rfl aggStep _ _ _ hg sizeStep (by decide) (#[.func (.func 97) #[] #[]]) rfl ?_)
        | (refine wpList_newA2 stR rfl 136 rfl _ zeroStep ?_; intro b11 w4 st4 _ _; clear stR)
        | (refine wpList_storeP st4 rfl 136 _ _ rfl 0 b11 0 rfl (.agg #[.func (.func 97) #[] #[]]) rfl _ _ rfl sizeStep (Nat.le_refl 1) (by simp [Value.cells, Value.oneCell']) (#[.func (.func 97) #[] #[]]) rfl _ rfl ?_; intro w5 st5 _; clear st4; have hc11 : w5.cell? ⟨b11, 0, none⟩ = some (.func (.func 97) #[] #[]) := st5.cell (i := 0) rfl 0)
        | (go_at_call 97; refine (hA2.out g Kb _ (HVI.out g Kb 2 wr _ hI' st5.below)).mono ?_; rintro e w6 ⟨x, c', rfl, hk, h1, h2, hst, hn, hgd⟩; have Hgd := Lib.hid hgd; clear st5 hc11; have Hk := Lib.hid hk; have H1 := Lib.hid h1; have H2 := Lib.hid h2; have Hn := Lib.hid hn; clear hk h1 h2 hn hgd))
      by_cases hx : x = 0
      · subst hx
        go_wp2
        go_roundw
        case rel => exact ⟨3, by omega, by omega, rfl, HIE.out ▸ Hn.out rfl⟩
        case measure => simp [intOf]
      · go_wp2_with (first
          | (go_at_call 58; refine (New_calls _ _ _ _ _).mono ?_; rintro e w7 ⟨bF, rfl, hle, hrow, hbel⟩))
        exact HP.out x c' w6 w7 bF _ _ Hk.out H1.out H2.out hst hbel hx Hgd.out hle hrow
    by_cases e3 : j = 3
    · subst e3
      clear hA0 hA1 hA2 hA4 hA5 HBC hzs HI0 HG HP0 HH hcl
      have hg0 : wr.cell? ⟨g, 3, none⟩ = some (.func (.func 98) #[] #[]) := by simp [World.cell?, hg, stepFs]
      go_upto_region 6 with (first
        | (refine wpList_loadP rfl 136 _ rfl g 3 1 rfl aggStep _ _ _ hg sizeStep (by decide) (#[.func (.func 98) #[] #[]]) rfl ?_)
        | (refine wpList_newA2 stR rfl 136 rfl _ zeroStep ?_; intro b11 w4 st4 _ _; clear stR)
        | (refine wpList_storeP st4 rfl 136 _ _ rfl 0 b11 0 rfl (.agg #[.func (.func 98) #[] #[]]) rfl _ _ rfl sizeStep (Nat.le_refl 1) (by simp [Value.cells, Value.oneCell']) (#[.func (.func 98) #[] #[]]) rfl _ rfl ?_; intro w5 st5 _; clear st4; have hc11 : w5.cell? ⟨b11, 0, none⟩ = some (.func (.func 98) #[] #[]) := st5.cell (i := 0) rfl 0)
        | (go_at_call 98; refine (hA3.out g Kb _ (HVI.out g Kb 3 wr _ hI' st5.below)).mono ?_; rintro e w6 ⟨x, c', rfl, hk, h1, h2, hst, hn, hgd⟩; have Hgd := Lib.hid hgd; clear st5 hc11; have Hk := Lib.hid hk; have H1 := Lib.hid h1; have H2 := Lib.hid h2; have Hn := Lib.hid hn; clear hk h1 h2 hn hgd))
      by_cases hx : x = 0
      · subst hx
        go_wp2
        go_roundw
        case rel => exact ⟨4, by omega, by omega, rfl, HIE.out ▸ Hn.out rfl⟩
        case measure => simp [intOf]
      · go_wp2_with (first
          | (go_at_call 58; refine (New_calls _ _ _ _ _).mono ?_; rintro e w7 ⟨bF, rfl, hle, hrow, hbel⟩))
        exact HP.out x c' w6 w7 bF _ _ Hk.out H1.out H2.out hst hbel hx Hgd.out hle hrow
    by_cases e4 : j = 4
    · subst e4
      clear hA0 hA1 hA2 hA3 hA5 HBC hzs HI0 HG HP0 HH hcl
      have hg0 : wr.cell? ⟨g, 4, none⟩ = some (.func (.func 99) #[] #[]) := by simp [World.cell?, hg, stepFs]
      go_upto_region 6 with (first
        | (refine wpList_loadP rfl 136 _ rfl g 4 1 rfl aggStep _ _ _ hg sizeStep (by decide) (#[.func (.func 99) #[] #[]]) rfl ?_)
        | (refine wpList_newA2 stR rfl 136 rfl _ zeroStep ?_; intro b11 w4 st4 _ _; clear stR)
        | (refine wpList_storeP st4 rfl 136 _ _ rfl 0 b11 0 rfl (.agg #[.func (.func 99) #[] #[]]) rfl _ _ rfl sizeStep (Nat.le_refl 1) (by simp [Value.cells, Value.oneCell']) (#[.func (.func 99) #[] #[]]) rfl _ rfl ?_; intro w5 st5 _; clear st4; have hc11 : w5.cell? ⟨b11, 0, none⟩ = some (.func (.func 99) #[] #[]) := st5.cell (i := 0) rfl 0)
        | (go_at_call 99; refine (hA4.out g Kb hne _ (HVI.out g Kb 4 wr _ hI' st5.below)).mono ?_; rintro e w6 ⟨x, c', rfl, hk, h1, h2, hst, hn, hgd⟩; have Hgd := Lib.hid hgd; clear st5 hc11; have Hk := Lib.hid hk; have H1 := Lib.hid h1; have H2 := Lib.hid h2; have Hn := Lib.hid hn; clear hk h1 h2 hn hgd))
      by_cases hx : x = 0
      · subst hx
        go_wp2
        go_roundw
        case rel => exact ⟨5, by omega, by omega, rfl, HIE.out ▸ Hn.out rfl⟩
        case measure => simp [intOf]
      · go_wp2_with (first
          | (go_at_call 58; refine (New_calls _ _ _ _ _).mono ?_; rintro e w7 ⟨bF, rfl, hle, hrow, hbel⟩))
        exact HP.out x c' w6 w7 bF _ _ Hk.out H1.out H2.out hst hbel hx Hgd.out hle hrow
    by_cases e5 : j = 5
    · subst e5
      clear hA0 hA1 hA2 hA3 hA4 HBC hzs HI0 HG HP0 HH hcl
      have hg0 : wr.cell? ⟨g, 5, none⟩ = some (.func (.func 101) #[] #[]) := by simp [World.cell?, hg, stepFs]
      go_upto_region 6 with (first
        | (refine wpList_loadP rfl 136 _ rfl g 5 1 rfl aggStep _ _ _ hg sizeStep (by decide) (#[.func (.func 101) #[] #[]]) rfl ?_)
        | (refine wpList_newA2 stR rfl 136 rfl _ zeroStep ?_; intro b11 w4 st4 _ _; clear stR)
        | (refine wpList_storeP st4 rfl 136 _ _ rfl 0 b11 0 rfl (.agg #[.func (.func 101) #[] #[]]) rfl _ _ rfl sizeStep (Nat.le_refl 1) (by simp [Value.cells, Value.oneCell']) (#[.func (.func 101) #[] #[]]) rfl _ rfl ?_; intro w5 st5 _; clear st4; have hc11 : w5.cell? ⟨b11, 0, none⟩ = some (.func (.func 101) #[] #[]) := st5.cell (i := 0) rfl 0)
        | (go_at_call 101; refine (hA5.out g Kb hne _ (HVI.out g Kb 5 wr _ hI' st5.below)).mono ?_; rintro e w6 ⟨x, c', rfl, hk, h1, h2, hst, hn, hgd⟩; have Hgd := Lib.hid hgd; clear st5 hc11; have Hk := Lib.hid hk; have H1 := Lib.hid h1; have H2 := Lib.hid h2; have Hn := Lib.hid hn; clear hk h1 h2 hn hgd))
      by_cases hx : x = 0
      · subst hx
        go_wp2
        go_roundw
        case rel => exact ⟨6, by omega, by omega, rfl, HIE.out ▸ Hn.out rfl⟩
        case measure => simp [intOf]
      · go_wp2_with (first
          | (go_at_call 58; refine (New_calls _ _ _ _ _).mono ?_; rintro e w7 ⟨bF, rfl, hle, hrow, hbel⟩))
        exact HP.out x c' w6 w7 bF _ _ Hk.out H1.out H2.out hst hbel hx Hgd.out hle hrow
    omega
end

end Go.Proofs.YtlcngapphloafaaGreatDoor
end

/- Package verify: Check. -/
section
open Go Go.RowKit Go.Extern.Stop Go.Stop Go.Extern
namespace Go.Proofs.YtlcngapphloafaaGreatDoor
attribute [local irreducible] Inv.wpInv Mix.wpUp

/-- The cell of errors.errorType. -/
def GotET (w : World) : Prop := w.cell? ⟨0, 0, none⟩ = some (.iface 212 (.agg #[hnd 65]))

section
variable {KK : List Int} {ra ka : Option Addr} {rc kc : Nat} {vs bs : Value} {rr kk lv lb : List Nat} {hb cb : Nat} {bits c : Int} {w wx : World}
theorem VGiv.far (V : VGiv KK ra ka rc kc vs bs rr kk lv lb hb cb bits c w) {L : List (Nat × Array Value × TypeId)} (st : StH w cb c L wx) : VGiv KK ra ka rc kc vs bs rr kk lv lb hb cb bits c wx :=
  ⟨StH.has st V.hh, StH.hasK st V.hh V.hK, V.hB, V.hc, StH.rd st V.hh V.hr, StH.rd st V.hh V.hk, StH.rd st V.hh V.hv, ⟨StH.rd st V.hh V.hbs.1, V.hbs.2⟩, V.kb, V.vb, V.bb, V.rl, V.kl, V.vl⟩
end

section
variable {KK : List Int} {ra ka va ba : Option Addr} {rc kc vc bc : Nat} {rr kk lv lb : List Nat} {hb cb : Nat} {bits c : Int} {w : World}
/-- What Check answers. -/
def CkPost (G : Prop) (rr kk : List Nat) (hb cb : Nat) (bits c : Int) (w : World) (e : Ending) (w' : World) : Prop :=
  ∃ x c', e = .returned (.int .i64 x) ∧ Known x ∧ c ≤ c' ∧ c' ≤ c + 259 ∧ w.grownBy w' (some cb) ∧ HasH hb cb bits c' w' ∧ (x = 0 → rr.length = 32 ∧ kk.length = 32) ∧ (G → x = 0)

set_option maxRecDepth 20000 in
set_option maxHeartbeats 4000000 in
theorem VCheck_calls (V : VGiv KK ra ka rc kc (.slice va lv.length vc) (.slice ba lb.length bc) rr kk lv lb hb cb bits c w) (p : Bool) (hg : GotET w) (hcb : cb ≠ 0) :
    Calls Tryz.prog 10 #[.pointer (some ⟨hb, 0, none⟩), .slice ra rr.length rc, .agg #[.slice ka kk.length kc, .slice va lv.length vc, .bool p], .slice ba lb.length bc] w (CkPost (GoodV KK bits p rr kk lv lb) rr kk hb cb bits c w) := by
  have HVf := Lib.hid (fun wx L (st : StH w cb c L wx) => Verify_calls (V.far st) p)
  have HH := Lib.hid V.hh
  have HP : Hid (∀ x c' w' L, Known x → c ≤ c' → c' ≤ c + 259 → StH w cb c' L w' → (x = 0 → rr.length = 32 ∧ kk.length = 32) → (GoodV KK bits p rr kk lv lb → x = 0) → CkPost (GoodV KK bits p rr kk lv lb) rr kk hb cb bits c w (.returned (.int .i64 x)) w') := fun x c' w' L h1 h2 h3 h4 h5 h6 => ⟨x, c', rfl, h1, h2, h3, StH.grown h4, StH.has h4 V.hh, h5, h6⟩
  have hcl : cb < w.heap.size := heap_lt V.hh.c
  have HAs : Hid (∀ tb b op n c' x wx L, StH w cb c' ((tb, #[.int .i64 0], 31) :: (b, #[.string op, .int .i64 n, .iface 31 (.int .i64 x)], 210) :: L) wx →
      Calls Tryz.prog 28 #[.iface 208 (.pointer (some ⟨b, 0, none⟩)), .iface 79 (.pointer (some ⟨tb, 0, none⟩))] wx fun e w' => e = .returned (.bool true) ∧ StH w cb c' ((tb, #[.int .i64 x], 31) :: (b, #[.string op, .int .i64 n, .iface 31 (.int .i64 x)], 210) :: L) w') := by
    intro tb b op n c' x wx L st
    have hsz : (w.setRow cb #[.int .i64 c']).heap.size = w.heap.size := by simp
    have hg' : (w.setRow cb #[.int .i64 c']).cell? ⟨0, 0, none⟩ = some (.iface 212 (.agg #[hnd 65])) := by
      refine (World.cell?_of_block (w := w) ((grownBy_setRow w cb _).block 0 (by omega) (fun e => hcb (Option.some.inj e).symm))).trans hg
    have h := AsE_of 208 (.pointer (some ⟨b, 0, none⟩)) true tb (.int .i64 0) (.int .i64 x) wx (w.setRow cb #[.int .i64 c']) ((b, #[.string op, .int .i64 n, .iface 31 (.int .i64 x)], 210) :: L) hg' (by rw [hsz]; exact st)
      (fun w1 vb st1 => as_code [(op, n)] _ x _ _ vb _ _ _ _ ⟨b, _, rfl, st1.at (i := 2) rfl, rfl⟩ st1)
    rw [hsz] at h
    exact h
  clear V hg
  generalize CkPost (GoodV KK bits p rr kk lv lb) rr kk hb cb bits c w = R at *
  have st := St.init w
  have st0 := StH.init HH.out st
  clear st
  go_enter Tryz.func10, Tryz.ntmps10
  have st1 := (st0.new #[.slice ka kk.length kc, .slice va lv.length vc, .bool p] 24).new #[.int .i64 0] 31
  rw [World.size_alloc] at st1
  go_upto_region 2 with (first | (fail "x"))
  generalize (w.alloc (.cells #[.slice ka kk.length kc, .slice va lv.length vc, .bool p] 24)).alloc (.cells #[.int .i64 0] 31) = w2 at *
  generalize w.heap.size + 1 = tb at *
  go_upto_region 3 with (first
    | (refine wpList_loadP rfl 24 _ rfl w.heap.size 0 3 rfl aggClaim _ _ _ (st1.at (i := 1) rfl) sizeClaim (Nat.le_refl 3) (#[.slice ka kk.length kc, .slice va lv.length vc, .bool p]) rfl ?_)
    | (go_at_call 27; refine (HVf.out _ _ st1).mono ?_; rintro e w3 ⟨x, c', hk, h1, h2, hg3, hh3, hgd, ⟨rfl, rfl, h4, h5⟩ | ⟨hx, b, op, n, rfl, hle, hrow⟩⟩))
  · have Hk := Lib.hid hk
    clear hk hgd
    have st3 := StH.sum st1 HH.out hg3 hh3
    clear HAs HVf st1
    have hct := st3.cell (i := 0) rfl 0
    go_wp2
    exact HP.out 0 c' _ _ Hk.out h1 h2 st3 (fun _ => ⟨h4, h5⟩) (fun _ => rfl)
  · have Hk := Lib.hid hk
    have Hgd := Lib.hid hgd
    clear hk hgd
    have st3 := StH.sumNew st1 HH.out hg3 hh3 hle hrow
    have hnb : b ≠ tb := by
      have := st3.nodup
      simp at this
      omega
    have st4 : StH w cb c' [(tb, #[.int .i64 0], 31), (b, #[.string op, .int .i64 n, .iface 31 (.int .i64 x)], 210)] w3 := St.few st3 (by simp) (by simp; omega)
    clear HVf st1 st3 hrow hg3 hh3
    go_wp2_with (first
      | (go_at_call 28; refine (HAs.out tb b op n c' x _ _ st4).mono ?_; rintro e w5 ⟨rfl, st5⟩; have hct := st5.cell (i := 0) rfl 0; clear st4))
    exact HP.out x c' _ _ Hk.out h1 h2 st5 (fun h => absurd h hx) Hgd.out
end

end Go.Proofs.YtlcngapphloafaaGreatDoor
end

/- The small functions that the law TopTotal calls; the plain facts of the example in runs. -/
section
open Go Go.RowKit
namespace Go.Proofs.YtlcngapphloafaaGreatDoor
attribute [local irreducible] Inv.wpInv Mix.wpUp

set_option maxHeartbeats 1000000 in
theorem Right_calls (b : Int) (w : World) : Calls Tryz.prog 6 #[.int .i64 b] w fun e w' => e = .returned (.bool (decide (0 ≤ b ∧ b ≤ 256))) ∧ w' = w := by
  have Hr : Hid (∀ x : Bool, x = decide (0 ≤ b ∧ b ≤ 256) → ∀ e, e = Ending.returned (.bool x) → e = .returned (.bool (decide (0 ≤ b ∧ b ≤ 256)))) := fun x hx e he => hx ▸ he
  generalize hG : decide (0 ≤ b ∧ b ≤ 256) = G at *
  by_cases h0 : 0 ≤ b
  · by_cases h1 : b ≤ 256
    · obtain rfl : G = true := by rw [← hG]; simp [h0, h1]
      clear hG Hr
      go_enter Tryz.func6, Tryz.ntmps6
      go_wp2
      go_ret
      exact ⟨rfl, rfl⟩
    · obtain rfl : G = false := by rw [← hG]; simp [h1]
      clear hG Hr
      have h1' : 256 < b := by omega
      go_enter Tryz.func6, Tryz.ntmps6
      go_wp2
      go_ret
      exact ⟨rfl, rfl⟩
  · obtain rfl : G = false := by rw [← hG]; simp [h0]
    clear hG Hr
    have h0' : b < 0 := by omega
    go_enter Tryz.func6, Tryz.ntmps6
    go_wp2
    go_ret
    exact ⟨rfl, rfl⟩

set_option maxHeartbeats 1000000 in
theorem Hash_calls (bits : Int) (hB : 0 ≤ bits ∧ bits ≤ 256) (w : World) :
    Calls Tryz.prog 9 #[.int .i64 bits] w fun e w' => ∃ hb cb, e = .returned (.pointer (some ⟨hb, 0, none⟩)) ∧ w.heap.size ≤ hb ∧ w.heap.size ≤ cb ∧ HasH hb cb bits 0 w' ∧ Below w.heap.size w w' := by
  have HN := Lib.hid (fun wx => DNew_calls bits hB wx)
  clear hB
  go_enter Tryz.func9, Tryz.ntmps9
  go_wp2_with (first
    | (go_at_call 26; refine (HN.out _).mono ?_; rintro e w1 ⟨hb, cb, rfl, h1, h2, h3, h4⟩))
  go_ret
  exact ⟨hb, cb, rfl, h1, h2, h3, h4⟩

/-! ### The example -/
theorem enc_dec (lf : List Nat) (hl : lf.length = 64) : kdOf (enc36 ++ lf) = 1 ∧ dpOf (enc36 ++ lf) = 0 ∧ bmOf (enc36 ++ lf) = zero32 ∧ lfOf (enc36 ++ lf) = lf ∧ restOf (enc36 ++ lf) = [] := by
  have hk : kdOf (enc36 ++ lf) = 1 := by simp [kdOf, enc36]
  refine ⟨hk, by simp [dpOf, enc36], ?_, ?_, ?_⟩
  · show List.take 32 (zero32 ++ lf) = zero32
    exact List.take_left' rfl
  · unfold lfOf
    rw [if_pos hk]
    have e : (enc36 ++ lf).drop 36 = lf := List.drop_left' rfl
    rw [e]
    exact List.take_of_length_le (by omega)
  · unfold restOf
    rw [if_pos hk]
    exact List.drop_eq_nil_of_le (by simp [hl, enc36, zero32])
theorem enc_ok (lf : List Nat) (hl : lf.length = 64) : decOk (enc36 ++ lf) := by
  obtain ⟨h1, h2, h3, h4, h5⟩ := enc_dec lf hl
  have hlen : (enc36 ++ lf).length = 100 := by simp [hl, enc36, zero32]
  refine ⟨by omega, rfl, fun _ => by omega, by rw [h5]; rfl, by rw [h5]; simp, ?_⟩
  rw [h1, h2, h3, h4, h5]
  exact check_leaf lf
theorem good_example (KK : List Int) (k l : List Nat) (hk : k.length = 32) (hl : l.length ≤ 65535) :
    GoodV KK 256 true (hashF KK 256 (0 :: (k ++ hashF KK 256 (2 :: l)))) k l (enc36 ++ (k ++ hashF KK 256 (2 :: l))) := by
  have hlf : (k ++ hashF KK 256 (2 :: l)).length = 64 := by rw [List.length_append, hk, (hashF_key _ _ _).len]
  obtain ⟨h1, h2, h3, h4, h5⟩ := enc_dec _ hlf
  refine ⟨(hashF_key _ _ _).len, hk, hl, enc_ok _ hlf, ?_, ?_⟩
  · rw [h1, h2, h4]
    simp [supF, dgV]
  · rw [h1, h2, h3, h4, h5]
    rfl

end Go.Proofs.YtlcngapphloafaaGreatDoor
end

/- Is a claim short. -/
section
open Go Go.RowKit
namespace Go.Proofs.YtlcngapphloafaaGreatDoor
attribute [local irreducible] Inv.wpInv Mix.wpUp

section
variable (ka va : Option Addr) (kn kc vn vc : Nat) (p : Bool) (w : World)
set_option maxHeartbeats 1000000 in
theorem Short_long (h : 100 < kn) : Calls Tryz.prog 7 #[.agg #[.slice ka kn kc, .slice va vn vc, .bool p]] w fun e w' => e = .returned (.int .i64 0) ∧ Below w.heap.size w w' := by
  have h1 : (100 : Int) < (kn : Nat) := by omega
  have st1 := (St.init w).new #[.slice ka kn kc, .slice va vn vc, .bool p] 24
  go_enter Tryz.func7, Tryz.ntmps7
  go_wp2
  go_ret
  exact ⟨rfl, st1.below⟩
set_option maxHeartbeats 1000000 in
theorem Short_longV (hkn : kn ≤ 100) (h : 70000 < vn) : Calls Tryz.prog 7 #[.agg #[.slice ka kn kc, .slice va vn vc, .bool p]] w fun e w' => e = .returned (.int .i64 0) ∧ Below w.heap.size w w' := by
  have h1 : ((kn : Nat) : Int) ≤ 100 := by omega
  have h2 : (70000 : Int) < (vn : Nat) := by omega
  have st1 := (St.init w).new #[.slice ka kn kc, .slice va vn vc, .bool p] 24
  go_enter Tryz.func7, Tryz.ntmps7
  go_wp2
  go_ret
  exact ⟨rfl, st1.below⟩
set_option maxHeartbeats 1000000 in
theorem Short_short (hkn : kn ≤ 100) (h : vn ≤ 70000) : Calls Tryz.prog 7 #[.agg #[.slice ka kn kc, .slice va vn vc, .bool p]] w fun e w' => e = .returned (.int .i64 1) ∧ Below w.heap.size w w' := by
  have h1 : ((kn : Nat) : Int) ≤ 100 := by omega
  have h2 : ((vn : Nat) : Int) ≤ 70000 := by omega
  have st1 := (St.init w).new #[.slice ka kn kc, .slice va vn vc, .bool p] 24
  go_enter Tryz.func7, Tryz.ntmps7
  go_wp2
  go_ret
  exact ⟨rfl, st1.below⟩
end

end Go.Proofs.YtlcngapphloafaaGreatDoor
end

/- The example of the chapter: runs. -/
section
open Go Go.RowKit
namespace Go.Proofs.YtlcngapphloafaaGreatDoor
attribute [local irreducible] Inv.wpInv Mix.wpUp

section
variable {P : Program} {ops : Array Oper} {rest : List Oper} {o : Oper} {a : Act} {w w0 : World} {Q : Exit → Act → World → Prop} {B : Nat} {L : List (Nat × Array Value × TypeId)}
theorem wpList_makeW (st : St B w0 L w) (hgd : Region.wanted o (yielded ops a.tmps) = true) (t : TypeId) (l c : Operand) (ho : o.op = .makeSlice t l c) (e : TypeId) (z : Value) (size bytes : Nat) (ht : P.underlying t = some (.slice e))
    (hz : (P.info? e).bind (·.zero) = some z) (hsz : (P.info? e).map (·.size) = some size) (hby : (P.info? e).map (·.bytes) = some bytes) (kl kc : IntKind) (l' c' : Int) (hl : a.eval l = .int kl l') (hc : a.eval c = .int kc c')
    (h0 : 0 ≤ l') (hlc : l' ≤ c') (hb : (bytes : Int) * c' ≤ 281474976710656) (h63 : c' ≤ 9223372036854775807)
    (h : ∀ b w1, St B w0 ((b, madeCells z.cells (c'.toNat * size), e) :: L) w1 → wpList P ops Q rest (a.put o.dst (.slice (some ⟨b, 0, none⟩) l'.toNat c'.toNat)) w1) : wpList P ops Q (o :: rest) a w := by
  refine wpList_wanted hgd fun K hK => ?_
  cases hq : P.info? e with
  | none => simp [hq] at hz
  | some i =>
    have hi : i.zero = some z := by simpa [hq] using hz
    have hs : i.size = size := by simpa [hq] using hsz
    have hbb : i.bytes = bytes := by simpa [hq] using hby
    subst hs
    subst hbb
    unfold Oper.wp execOp
    simp only [ho, hl, hc, Sem.run_bind, run_make w t e i z ht hq hi kl kc l' c' h0 hlc hb h63, Sem.run_pure, Result.andThen_ok, Oper.upon]
    exact hK _ _ (h _ _ (st.new _ e))
theorem mxOp_make (st : St B w0 L w) {j : Nat} {K : Act → World → Prop} (hi0 : ops[j]? = some o) (hw : Region.wanted o (yielded ops a.tmps) = true) (t : TypeId) (l c : Operand) (ho : o.op = .makeSlice t l c) (e : TypeId) (z : Value) (size bytes : Nat) (ht : P.underlying t = some (.slice e))
    (hz : (P.info? e).bind (·.zero) = some z) (hsz : (P.info? e).map (·.size) = some size) (hby : (P.info? e).map (·.bytes) = some bytes) (kl kc : IntKind) (l' c' : Int) (hl : a.eval l = .int kl l') (hc : a.eval c = .int kc c')
    (h0 : 0 ≤ l') (hlc : l' ≤ c') (hb : (bytes : Int) * c' ≤ 281474976710656) (h63 : c' ≤ 9223372036854775807)
    (h : ∀ b w1, St B w0 ((b, madeCells z.cells (c'.toNat * size), e) :: L) w1 → Below w.heap.size w w1 → K (a.put o.dst (.slice (some ⟨b, 0, none⟩) l'.toNat c'.toNat)) w1) : Mix.mxOp P ops j K a w := by
  refine Mix.mxOp_go hi0 hw ?_
  cases hq : P.info? e with
  | none => simp [hq] at hz
  | some i =>
    have hi : i.zero = some z := by simpa [hq] using hz
    have hs : i.size = size := by simpa [hq] using hsz
    have hbb : i.bytes = bytes := by simpa [hq] using hby
    subst hs
    subst hbb
    unfold Oper.wp execOp
    simp only [ho, hl, hc, Sem.run_bind, run_make w t e i z ht hq hi kl kc l' c' h0 hlc hb h63, Sem.run_pure, Result.andThen_ok, Oper.upon]
    exact h _ _ (st.new _ e) ((Below.refl _ _).alloc (Nat.le_refl _) _)
end
theorem builtClaim (ka va : Option Addr) (kn kc vn vc : Nat) (p : Bool) : Tryz.prog.built 24 [(0, .slice ka kn kc), (1, .slice va vn vc), (2, .bool p)] = some #[.slice ka kn kc, .slice va vn vc, .bool p] := by kernel_rfl
theorem made32 : madeCells (Value.int .u8 0).cells ((32 : Int).toNat * 1) = kv zero32 := by kernel_rfl
theorem fill7 : Instr.fill (fun i => some (i * 1, 1)) ((Array.range (1 * 1)).map ((Value.int .u8 0).cells[· % (Value.int .u8 0).cells.size]!)) [(0, .int .u8 7)] = some (kv [7]) := by kernel_rfl

theorem bytes_example (vd : List Nat) (h : ∀ x ∈ vd, x < 256) : ∀ x ∈ enc36 ++ (zero32 ++ vd), x < 256 := by
  intro x hx
  rcases List.mem_append.1 hx with hx | hx
  · exact (by decide : ∀ x ∈ enc36, x < 256) x hx
  · rcases List.mem_append.1 hx with hx | hx
    · exact (by decide : ∀ x ∈ zero32, x < 256) x hx
    · exact h x hx
theorem got_far {w wx : World} (h : GotET w) (hb : Below w.heap.size w wx) : GotET wx := (World.cell?_of_block (w := w) (hb.block 0 (block_lt_of_cell h))).trans h
theorem far_ne0 {w : World} {cb : Nat} (h : GotET w) (hcb : w.heap.size ≤ cb) : cb ≠ 0 := by
  have := block_lt_of_cell h
  simp at this
  omega
theorem check_example (KK : List Int) (D vd : List Nat) (hD : Key D) (hvd : Key vd) (hgood : GoodV KK 256 true D zero32 [7] (enc36 ++ (zero32 ++ vd))) {B b3 kb2 b72 hb cb cv i3 ik i7 : Nat} {av : Option Addr} {w4 wx : World} {L : List (Nat × Array Value × TypeId)}
    (hlen : (enc36 ++ (zero32 ++ vd)).length = 100) (hh : HasH hb cb 256 (0 + 2) wx) (hK : HasK KK wx) (hg : GotET wx) (hcb : cb ≠ 0) (st : St B w4 L wx) (h3 : L[i3]? = some (b3, kv D, 38)) (hk : L[ik]? = some (kb2, kv zero32, 5)) (h7 : L[i7]? = some (b72, kv [7], 5))
    (hR : RdS wx (.slice av 100 cv) (enc36 ++ (zero32 ++ vd))) :
    Calls Tryz.prog 10 #[.pointer (some ⟨hb, 0, none⟩), .slice (some ⟨b3, 0, none⟩) 32 32, .agg #[.slice (some ⟨kb2, 0, none⟩) 32 32, .slice (some ⟨b72, 0, none⟩) 1 1, .bool true], .slice av 100 cv] wx fun e w' => e = .returned (.int .i64 0) ∧ wx.grownBy w' (some cb) := by
  have hDl := hD.len
  have V : VGiv KK (some ⟨b3, 0, none⟩) (some ⟨kb2, 0, none⟩) 32 32 (.slice (some ⟨b72, 0, none⟩) ([7] : List Nat).length 1) (.slice av (enc36 ++ (zero32 ++ vd)).length cv) D zero32 [7] (enc36 ++ (zero32 ++ vd)) hb cb 256 (0 + 2) wx :=
    ⟨hh, hK, by decide, by decide, RdB.row (by rw [hDl]; decide) (st.at h3), RdB.row (by decide) (st.at hk), RdB.row (by decide) (st.at h7), by rw [hlen]; exact hR, by decide, by decide, bytes_example vd hvd.lt, by rw [hDl]; decide, by decide, by decide⟩
  have h := VCheck_calls V true hg hcb
  rw [hlen, hDl] at h
  refine h.mono ?_
  rintro e w' ⟨x, c', rfl, _, _, _, hgr, _, _, hx⟩
  rw [hx hgood]
  exact ⟨rfl, hgr⟩

set_option maxRecDepth 20000 in
set_option maxHeartbeats 2000000 in
theorem runs_calls (KK : List Int) (w : World) (hK : HasK KK w) (hg : GotET w) :
    Calls Tryz.prog 8 #[] w fun e w' => e = .returned (.bool true) ∧ Below w.heap.size w w' := by
  have HKK := Lib.hid hK
  have HG := Lib.hid hg
  have HN := Lib.hid (fun wx => TNew_calls 256 (by decide) wx)
  clear hK hg
  go_enter Tryz.func8, Tryz.ntmps8
  go_upto_region 2 with (first
    | (go_at_call 24; refine (HN.out _).mono ?_; rintro e w1 ⟨tb, hb, cb, rfl, htb, hhb, hcb, hne, hrow, hh, hbel⟩))
  have ht0 : HasTr tb hb none w1 := hrow
  have HT := Lib.hid ht0
  have HH := Lib.hid hh
  have HK1 : Hid (HasK KK w1) := HKK.out.call hbel
  have stA := St.init w1
  clear ht0 hrow hh
  go_upto_region 4 with (first
    | (refine wpList_makeW stA rfl 22 _ _ rfl 5 (.int .u8 0) 1 1 sliceU8 zeroU8 sizeU8 bytesU8 .i64 .i64 32 32 rfl rfl (by omega) (by omega) (by omega) (by omega) ?_; intro kb w2 st2; clear stA; rw [made32] at st2)
    | (refine wpList_buildSlice st2 rfl 22 1 _ rfl 5 sliceU8 _ 1 zeroU8 sizeU8 (by decide) (by decide) [(0, .int .u8 7)] ?_ _ fill7 ?_; (· first | (simp [Act.eval]; done) | rfl); intro b7 w3 st3 _; clear st2)
    | (go_at_call 20; refine (TPut_calls KK tb zero32 [7] (.slice (some ⟨kb, 0, none⟩) 32 32) (some ⟨b7, 0, none⟩) 1 hb cb 256 0 _ (HT.out.call st3.below) (HH.out.call st3.below) (by decide) (by decide) key_zero (by decide) (by decide) (RdB.row (l := zero32) (by decide) (st3.at (i := 1) rfl)) (RdB.row (l := [7]) (by decide) (st3.at (i := 0) rfl)) (HK1.out.call st3.below)).mono ?_; rintro e w4 ⟨nb, a', c', rfl, ht4, hn4, hh4, hbl4⟩))
  have hb4 : Below w.heap.size w w4 := (hbel.trans (st3.below.mono hbel.size)).trans (hbl4 w.heap.size htb hcb)
  clear hbl4 st3 HT HH HK1 hbel hne
  have stB := St.init w4
  have HT := Lib.hid ht4
  have HN4 := Lib.hid hn4
  have HH4 := Lib.hid hh4
  clear ht4 hn4 hh4 HN
  have hvd := Lib.hid (hashF_key KK 256 [2, 7])
  have hrd := Lib.hid (hashF_key KK 256 (0 :: (zero32 ++ hashF KK 256 [2, 7])))
  have hgood := Lib.hid (good_example KK zero32 [7] rfl (by decide))
  have hsl : (zero32 ++ hashF KK 256 [2, 7]).length = 64 := by rw [List.length_append, hvd.out.len]; rfl
  have HSL := Lib.hid hsl
  clear hsl
  generalize hashF KK 256 (0 :: (zero32 ++ hashF KK 256 [2, 7])) = D at *
  generalize hashF KK 256 [2, 7] = vd at *
  go_upto_region 6 with (first
    | (go_at_call 21; refine (TRoot_calls tb hb nb _ D hrd.out.len _ _ (HT.out.call stB.below) ((stB.below.block nb (heap_lt HN4.out)).trans HN4.out)).mono ?_; rintro e w5 ⟨rfl, hbel5⟩; have st5 := St.call stB hbel5; clear stB hbel5)
    | (refine wpList_newA st5 rfl 38 rfl _ zeroDig ?_; intro b3 w6 st6; clear st5)
    | (refine wpList_storeR st6 rfl 38 _ _ rfl 0 b3 rfl (.agg (kv D)) rfl _ _ rfl (sizeDg hrd.out.len) (by show (kv D).size = _; rw [kv_size, hrd.out.len, kv_size]; rfl) (kv_one _) _ rfl ?_; intro w7 st7; clear st6)
    | (go_at_call 16; refine (THasher_calls tb hb _ _ (HT.out.call st7.below)).mono ?_; rintro e wH ⟨rfl, rfl⟩)
    | (go_at_call 17; refine (TNode_calls tb hb _ _ (HT.out.call st7.below)).mono ?_; rintro e wH ⟨rfl, rfl⟩)
    | (refine wpList_build rfl 37 _ rfl [] ?_ _ builtKey0 ?_; (· first | (simp [Act.eval]; done) | rfl))
    | (go_at_call 15; refine (Prove_calls _ zero32 rfl zero32 vd _ rfl rfl hvd.out.len nb _ ((World.cell?_of_block (w := w4) (st7.below.block nb (heap_lt HN4.out))).trans ((cell_of_row w4 nb 0 _ _ (0, 0) HN4.out).trans (nodeCells_content _ _)))).mono ?_; rintro e w8 ⟨rfl, hbel8⟩; have st8 := St.call st7 hbel8; clear st7 hbel8)
    | (go_at_call 25; refine (EncodeS_calls (zero32 ++ vd) HSL.out _).mono ?_; rintro e w9 ⟨v9, rfl, hrd9, hbel9⟩; have st9 := St.call st8 hbel9; clear st8 hbel9))
  have HR := Lib.hid hrd9
  clear hrd9
  have hTr : Hid (∀ wx, Below w4.heap.size w4 wx → HasTr tb hb (some ⟨nb, 0, none⟩) wx) := fun wx h => HT.out.call h
  obtain ⟨_, av, cv, rfl, hcap⟩ := HR.out
  have hlen : (enc36 ++ (zero32 ++ vd)).length = 100 := by have := HSL.out; simp [enc36, zero32] at this ⊢; omega
  have HC := Lib.hid (fun (kb2 b72 i3 ik i7 : Nat) (wx : World) (L : List (Nat × Array Value × TypeId)) (st : St w4.heap.size w4 L wx) => check_example KK D vd hrd.out hvd.out hgood.out (b3 := b3) (kb2 := kb2) (b72 := b72) (i3 := i3) (ik := ik) (i7 := i7) (av := av) (cv := cv) (B := w4.heap.size) (w4 := w4) (wx := wx) (L := L) hlen (HH4.out.call st.below) ((HKK.out.call hb4).call st.below) (got_far (HG.out) (hb4.trans (st.below.mono hb4.size))) (far_ne0 HG.out hcb) st)
  have HD : Hid (∀ wx w5, Below w4.heap.size w4 wx → wx.grownBy w5 (some cb) → HasTr tb hb (some ⟨nb, 0, none⟩) w5 ∧ Below w.heap.size w w5) := fun wx w5 h hgr => ⟨(HT.out.call h).turn (HH4.out.call h) hgr, (hb4.trans (h.mono hb4.size)).trans (below_of_grown hgr (heap_lt (HH4.out.call h).c) hcb)⟩
  refine Mix2.wp_region_mix (J := fun wx => HasTr tb hb (some ⟨nb, 0, none⟩) wx) 18 (fun wx => St w4.heap.size w4 [(b3, kv D, 38)] wx ∧ RdS wx (.slice av (enc36 ++ (zero32 ++ vd)).length cv) (enc36 ++ (zero32 ++ vd))) mixed (by kernel_rfl) ⟨st9.drew, HR.out.call (Below.refl _ _).drew⟩ ?_
  intro F inv
  rw [hlen]
  refine Mix2.good_batch (f := 6) F (fun wx wy h hb' => ⟨St.call h.1 hb', h.2.call hb'⟩) (fun _ h => hTr.out _ h.1.below) [0, 1, 2, 3, 4, 5, 6, 7, 8, 9, 10, 14] _ _ inv (by kernel_rfl) ?_
  clear inv st9
  have hcell : True := trivial
  iterate 9
    (refine Mix.wpUp_cons rfl (fun K hK => ?_); go_simp; apply up_run; · (intro wx hw; go_simp; (try go_ints); (try go_simp); (try (rw [if_pos (by omega)])); (try go_simp); (first | done | rfl))
     refine hK _ ?_; clear hK K)
  (refine Mix.wpUp_cons rfl (fun K hK => ?_); go_simp; refine up_call 16 #[.pointer (some ⟨tb, 0, none⟩)] ?_ (fun wx stx => (THasher_calls tb hb _ wx stx).mono (by rintro e w' ⟨h1, h2⟩; exact ⟨h1, by rw [h2]; exact Below.refl _ _⟩)) ?_; · (intro wx hw; go_simp)
   refine hK _ ?_; clear hK K)
  iterate 2
    (refine Mix.wpUp_cons rfl (fun K hK => ?_); go_simp; apply up_run; · (intro wx hw; go_simp; (try go_ints); (try go_simp); (try (rw [if_pos (by omega)])); (try go_simp); (first | done | rfl))
     refine hK _ ?_; clear hK K)
  refine Mix.wpUp_nil ?_
  intro inv
  refine Mix2.good_two (i := 11) (k := 12) (f := 5) (by kernel_rfl) inv (fun w5 st5 => ?_) (fun w5 st5 => ?_)
  · clear inv
    refine mxOp_make st5.1 rfl rfl 22 _ _ rfl 5 (.int .u8 0) 1 1 sliceU8 zeroU8 sizeU8 bytesU8 .i64 .i64 32 32 rfl rfl (by omega) (by omega) (by omega) (by omega) (fun kb2 w6 st6 hb6 => ?_)
    rw [made32] at st6
    refine ⟨fun wx => St w4.heap.size w4 [(kb2, kv zero32, 5), (b3, kv D, 38)] wx ∧ RdS wx (.slice av 100 cv) (enc36 ++ (zero32 ++ vd)), fun wx wy h hb' => ⟨St.call h.1 hb', h.2.call hb'⟩, ⟨st6, hlen ▸ st5.2.call hb6⟩, fun _ h => hTr.out _ h.1.below, fun inv => ?_⟩
    clear st5 st6 hb6
    refine Mix2.good_one (i := 12) (f := 4) (by kernel_rfl) inv (fun w7 st7 => ?_)
    clear inv
    refine mxOp_buildSlice st7.1 rfl rfl 22 1 _ rfl 5 sliceU8 _ 1 zeroU8 sizeU8 (by decide) (by decide) [(0, .int .u8 7)] (by simp [Act.eval]; done) _ fill7 (fun b72 w8 st8 hb8 => ?_)
    refine ⟨fun wx => St w4.heap.size w4 [(b72, kv [7], 5), (kb2, kv zero32, 5), (b3, kv D, 38)] wx ∧ RdS wx (.slice av 100 cv) (enc36 ++ (zero32 ++ vd)), fun wx wy h hb' => ⟨St.call h.1 hb', h.2.call hb'⟩, ⟨st8, st7.2.call hb8⟩, fun _ h => hTr.out _ h.1.below, fun inv => ?_⟩
    clear st7 st8 hb8
    refine Mix2.good_batch (f := 3) F (fun wx wy h hb' => ⟨St.call h.1 hb', h.2.call hb'⟩) (fun _ h => hTr.out _ h.1.below) [13] _ _ inv (by kernel_rfl) ?_
    clear inv
    (refine Mix.wpUp_cons rfl (fun K hK => ?_); go_simp; refine up_build 24 _ rfl [(0, .slice (some ⟨kb2, 0, none⟩) 32 32), (1, .slice (some ⟨b72, 0, none⟩) 1 1), (2, .bool true)] (by first | (simp [Act.eval]; done) | rfl) _ (builtClaim _ _ _ _ _ _ _) ?_
     refine hK _ ?_; clear hK K)
    refine Mix.wpUp_nil ?_
    intro inv
    refine Mix2.good_one (i := 15) (f := 2) (by kernel_rfl) inv (fun w9 st9 => ?_)
    clear inv
    refine mxOp_call rfl rfl 10 #[.pointer (some ⟨hb, 0, none⟩), .slice (some ⟨b3, 0, none⟩) 32 32, .agg #[.slice (some ⟨kb2, 0, none⟩) 32 32, .slice (some ⟨b72, 0, none⟩) 1 1, .bool true], .slice av 100 cv] (by go_simp) ?_
    refine (HC.out kb2 b72 2 1 0 _ _ st9.1 rfl rfl rfl st9.2).mono ?_
    rintro e w10 ⟨rfl, hgr⟩
    obtain ⟨hT10, hb10⟩ := HD.out _ _ st9.1.below hgr
    refine ⟨_, rfl, fun wx => HasTr tb hb (some ⟨nb, 0, none⟩) wx ∧ Below w.heap.size w wx, fun wx wy h hb' => ⟨h.1.call hb', h.2.trans (hb'.mono h.2.size)⟩, ⟨hT10, hb10⟩, fun _ h => h.1, fun inv => ?_⟩
    clear st9 hgr hT10 hb10
    refine Mix2.good_batch (f := 0) F (fun wx wy h hb' => ⟨h.1.call hb', h.2.trans (hb'.mono h.2.size)⟩) (fun _ h => h.1) [16, 17] _ _ inv (by kernel_rfl) ?_
    clear inv
    iterate 2
      (refine Mix.wpUp_cons rfl (fun K hK => ?_); go_simp; apply up_run; · (intro wx hw; go_simp; (try go_ints); (try go_simp); (try (rw [if_pos (by omega)])); (try go_simp); (first | done | rfl))
       refine hK _ ?_; clear hK K)
    refine Mix.wpUp_nil ?_
    intro inv
    clear inv F
    refine ⟨by kernel_rfl, fun w11 st11 => ?_⟩
    simp only [List.drop_succ_cons, List.drop_zero]
    go_wp2
    go_ret
    exact ⟨rfl, st11.2⟩
  · clear inv
    refine mxOp_buildSlice st5.1 rfl rfl 22 1 _ rfl 5 sliceU8 _ 1 zeroU8 sizeU8 (by decide) (by decide) [(0, .int .u8 7)] (by simp [Act.eval]; done) _ fill7 (fun b72 w6 st6 hb6 => ?_)
    refine ⟨fun wx => St w4.heap.size w4 [(b72, kv [7], 5), (b3, kv D, 38)] wx ∧ RdS wx (.slice av 100 cv) (enc36 ++ (zero32 ++ vd)), fun wx wy h hb' => ⟨St.call h.1 hb', h.2.call hb'⟩, ⟨st6, hlen ▸ st5.2.call hb6⟩, fun _ h => hTr.out _ h.1.below, fun inv => ?_⟩
    clear st5 st6 hb6
    refine Mix2.good_one (i := 11) (f := 4) (by kernel_rfl) inv (fun w7 st7 => ?_)
    clear inv
    refine mxOp_make st7.1 rfl rfl 22 _ _ rfl 5 (.int .u8 0) 1 1 sliceU8 zeroU8 sizeU8 bytesU8 .i64 .i64 32 32 rfl rfl (by omega) (by omega) (by omega) (by omega) (fun kb2 w8 st8 hb8 => ?_)
    rw [made32] at st8
    refine ⟨fun wx => St w4.heap.size w4 [(kb2, kv zero32, 5), (b72, kv [7], 5), (b3, kv D, 38)] wx ∧ RdS wx (.slice av 100 cv) (enc36 ++ (zero32 ++ vd)), fun wx wy h hb' => ⟨St.call h.1 hb', h.2.call hb'⟩, ⟨st8, st7.2.call hb8⟩, fun _ h => hTr.out _ h.1.below, fun inv => ?_⟩
    clear st7 st8 hb8
    refine Mix2.good_batch (f := 3) F (fun wx wy h hb' => ⟨St.call h.1 hb', h.2.call hb'⟩) (fun _ h => hTr.out _ h.1.below) [13] _ _ inv (by kernel_rfl) ?_
    clear inv
    (refine Mix.wpUp_cons rfl (fun K hK => ?_); go_simp; refine up_build 24 _ rfl [(0, .slice (some ⟨kb2, 0, none⟩) 32 32), (1, .slice (some ⟨b72, 0, none⟩) 1 1), (2, .bool true)] (by first | (simp [Act.eval]; done) | rfl) _ (builtClaim _ _ _ _ _ _ _) ?_
     refine hK _ ?_; clear hK K)
    refine Mix.wpUp_nil ?_
    intro inv
    refine Mix2.good_one (i := 15) (f := 2) (by kernel_rfl) inv (fun w9 st9 => ?_)
    clear inv
    refine mxOp_call rfl rfl 10 #[.pointer (some ⟨hb, 0, none⟩), .slice (some ⟨b3, 0, none⟩) 32 32, .agg #[.slice (some ⟨kb2, 0, none⟩) 32 32, .slice (some ⟨b72, 0, none⟩) 1 1, .bool true], .slice av 100 cv] (by go_simp) ?_
    refine (HC.out kb2 b72 2 0 1 _ _ st9.1 rfl rfl rfl st9.2).mono ?_
    rintro e w10 ⟨rfl, hgr⟩
    obtain ⟨hT10, hb10⟩ := HD.out _ _ st9.1.below hgr
    refine ⟨_, rfl, fun wx => HasTr tb hb (some ⟨nb, 0, none⟩) wx ∧ Below w.heap.size w wx, fun wx wy h hb' => ⟨h.1.call hb', h.2.trans (hb'.mono h.2.size)⟩, ⟨hT10, hb10⟩, fun _ h => h.1, fun inv => ?_⟩
    clear st9 hgr hT10 hb10
    refine Mix2.good_batch (f := 0) F (fun wx wy h hb' => ⟨h.1.call hb', h.2.trans (hb'.mono h.2.size)⟩) (fun _ h => h.1) [16, 17] _ _ inv (by kernel_rfl) ?_
    clear inv
    iterate 2
      (refine Mix.wpUp_cons rfl (fun K hK => ?_); go_simp; apply up_run; · (intro wx hw; go_simp; (try go_ints); (try go_simp); (try (rw [if_pos (by omega)])); (try go_simp); (first | done | rfl))
       refine hK _ ?_; clear hK K)
    refine Mix.wpUp_nil ?_
    intro inv
    clear inv F
    refine ⟨by kernel_rfl, fun w11 st11 => ?_⟩
    simp only [List.drop_succ_cons, List.drop_zero]
    go_wp2
    go_ret
    exact ⟨rfl, st11.2⟩

end Go.Proofs.YtlcngapphloafaaGreatDoor
end
