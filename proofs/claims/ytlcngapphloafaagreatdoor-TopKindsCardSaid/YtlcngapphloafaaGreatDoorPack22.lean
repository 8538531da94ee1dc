/- Parts of the proof that are used by the claim: Root, Ver1, Ver2, Ver3, Ver4, Ver5, MItem. No condition is added here. -/
import Derived.Test.YtlcngapphloafaaGreatDoorPack21

/- Package fold: Root. -/
section
open Go Go.RowKit
namespace Go.Proofs.YtlcngapphloafaaGreatDoor
attribute [local irreducible] Inv.wpInv Mix.wpUp

theorem stepsF_last (KK : List Int) (bits : Int) (e k X : List Nat) (dp i : Nat) (hi : i < 32) : (stepsF KK bits e k X dp (dp + 1)).getD (dp * 32 + i) 0 = (belF KK bits e k X dp dp).getD i 0 := by
  have h := stepsF_len KK bits e k X dp dp
  rw [stepsF_succ, List.getD_eq_getElem?_getD, List.getElem?_append_right (by omega), h, List.getD_eq_getElem?_getD]
  congr 2
  omega

set_option maxRecDepth 20000 in
set_option maxHeartbeats 400000 in
theorem Root_calls (KK : List Int) (kd : Int) (dp : Nat) (lf bm sib k : List Nat) (av : Option Addr) (n cv : Nat) (hl : lf.length = 64) (hlb : ∀ x ∈ lf, x < 256) (hk : Key bm) (hkk : Key k) (hsb : ∀ x ∈ sib, x < 256) (hck : checkF kd dp lf bm n = 0) (hb cb : Nat) (bits c : Int) (w : World) (hh : HasH hb cb bits c w) (hB : 0 ≤ bits ∧ bits ≤ 256)
    (hc : -4611686018427387904 ≤ c ∧ c ≤ 1000000) (hK : HasK KK w) (hs : RdD w (.slice av n cv) n sib) :
    Calls Tryz.prog 19 #[.pointer (some ⟨hb, 0, none⟩), .agg (proofCells kd dp lf bm (.slice av n cv)), .agg (kv k)] w
      fun e w' => e = .returned (.tuple #[.agg (kv (belF KK bits (endF kd lf) k (expF (hashF KK bits [3]) dp (setB bm) sib) dp dp)), .int .i64 0]) ∧ w.grownBy w' (some cb) ∧ HasH hb cb bits (c + 2 + dp) w' := by
  have HH := Lib.hid hh
  have HKK := Lib.hid hK
  obtain ⟨hd0, hd1, _, _⟩ := check_ok hck
  have HE := Lib.hid (fun wx h1 h2 h3 => Steps_calls KK kd dp lf bm sib k av n cv hl hlb hk hkk hsb hck hb cb bits c wx h1 hB hc h2 h3)
  have HS : Hid ((proofCells kd dp lf bm (.slice av n cv)).size = 99) := proofCells_size hl hk.len
  have HRd := Lib.hid hs
  have Hk := Lib.hid hkk
  clear hh hK hk hck hs hc hkk hsb hlb hl hB
  have Hst := Lib.hid (stepsF_last KK bits (endF kd lf) k (expF (hashF KK bits [3]) dp (setB bm) sib) dp)
  have Hbl := Lib.hid (belF_key KK bits (endF kd lf) k (expF (hashF KK bits [3]) dp (setB bm) sib) dp dp)
  generalize belF KK bits (endF kd lf) k (expF (hashF KK bits [3]) dp (setB bm) sib) dp dp = bl at *
  generalize stepsF KK bits (endF kd lf) k (expF (hashF KK bits [3]) dp (setB bm) sib) dp (dp + 1) = sf at *
  generalize proofCells kd dp lf bm (.slice av n cv) = pc at *
  obtain ⟨dP, hdP, haP⟩ := aggProof
  have st := St.init w
  go_enter Tryz.func19, Tryz.ntmps19
  go_upto_region 2 with (first
    | (refine wpList_boxA st rfl 43 _ rfl pc rfl ?_; intro b4 w1 st1; clear st)
    | (refine wpList_boxA st1 rfl 37 _ rfl (kv k) rfl ?_; intro b5 w2 st2; clear st1)
    | (refine wpList_newA st2 rfl 38 rfl _ zeroDig ?_; intro b6 w2' st2'; clear st2; have st3 := StH.init HH.out st2')
    | (refine wpList_loadR rfl 43 _ rfl b4 rfl _ hdP haP _ _ (st3.at (i := 2) rfl) (sizeProofOf HS.out) ?_)
    | (refine wpList_loadR rfl 37 _ rfl b5 rfl _ aggKey rfl _ _ (st3.at (i := 1) rfl) (sizeKv Hk.out.len) ?_)
    | (go_at_call 46; refine (HE.out _ (StH.has st3 HH.out) (StH.hasK st3 HH.out HKK.out) (HRd.out.turn HH.out.c (StH.grown st3))).mono ?_; rintro e w4 ⟨v4, rfl, hrd4, hg4, hh4⟩; have st4 := StH.sum st3 HH.out hg4 hh4; clear st3 st2' hg4 hh4; obtain ⟨_, _, h4⟩ := hrd4; obtain ⟨b, off, cap, rfl, h5⟩ := h4.resolve_left (by rintro ⟨h0, _⟩; omega); clear h4))
  go_upto_region 4 with (first | (fail "x"))
  have Hcc : Hid (∀ wx : World, (∀ i, i < 32 * (dp + 1) → wx.cell? ⟨b, off + i, none⟩ = some (.int .u8 (sf.getD i 0 : Nat))) → ∀ i, i < bl.length → wx.cell? ⟨b, off + dp * 32 + i, none⟩ = some (.int .u8 (bl.getD i 0 : Nat))) := by
    intro wx h i hi
    rw [Hbl.out.len] at hi
    rw [← Hst.out i hi, Nat.add_assoc]
    exact h _ (by omega)
  have hcell : ∀ i, i < bl.length → w4.cell? ⟨b, off + (dp + 1 - 1) * 32 + i, none⟩ = some (.int .u8 (bl.getD i 0 : Nat)) := Hcc.out _ h5
  clear Hcc h5 Hst
  have hn1 : (1 : Int) ≤ ((dp + 1 : Nat) : Int) := by omega
  have hn2 : ((dp + 1 : Nat) : Int) ≤ 257 := by omega
  generalize dp + 1 = n1 at *
  have hn4 : (0 : Int) ≤ (n1 : Int) - 1 := by omega
  have hn5 : (n1 : Int) - 1 < n1 := by omega
  have Hcell := Lib.hid hcell
  clear hcell
  go_wp2_with (first
    | (refine wpList_loadB rfl 38 _ rfl b (off + (n1 - 1) * 32) 32 rfl aggDigE sizeDig0 bl (by rw [Hbl.out.len]; exact Nat.le_refl _) Hcell.out ?_; rw [List.take_of_length_le (Nat.le_of_eq Hbl.out.len)])
    | (refine wpList_storeR st4 rfl 38 _ _ rfl 0 b6 rfl (.agg (kv bl)) rfl _ _ rfl (sizeDg Hbl.out.len) (by show (kv bl).size = _; rw [kv_size, Hbl.out.len, kv_size]; rfl) (kv_one _) _ rfl ?_; intro w5 st5; clear st4))
  exact ret_row2 rfl b6 _ _ aggDigE rfl (st5.at (i := 0) rfl) (sizeDg Hbl.out.len) _ rfl rfl ⟨rfl, StH.grown st5, StH.has st5 HH.out⟩

end Go.Proofs.YtlcngapphloafaaGreatDoor
end

/- Package verify: when, and the first four steps. -/
section
open Go Go.RowKit
namespace Go.Proofs.YtlcngapphloafaaGreatDoor
attribute [local irreducible] Inv.wpInv Mix.wpUp

/-- The cells of a check. -/
def ckR (h r k v : Value) (p : Bool) (b : Value) (pc : Array Value) : Array Value := (#[h, r, k, v, .bool p, b] : Array Value) ++ pc
section
variable {h r k v b : Value} {p : Bool} {pc : Array Value}
theorem ckR_size : (ckR h r k v p b pc).size = 6 + pc.size := by simp [ckR]
theorem ckR_0 : (ckR h r k v p b pc)[0]? = some h := by simp [ckR, Array.getElem?_append]
theorem ckR_1 : (ckR h r k v p b pc)[1]? = some r := by simp [ckR, Array.getElem?_append]
theorem ckR_2 : (ckR h r k v p b pc)[2]? = some k := by simp [ckR, Array.getElem?_append]
theorem ckR_3 : (ckR h r k v p b pc)[3]? = some v := by simp [ckR, Array.getElem?_append]
theorem ckR_4 : (ckR h r k v p b pc)[4]? = some (.bool p) := by simp [ckR, Array.getElem?_append]
theorem ckR_5 : (ckR h r k v p b pc)[5]? = some b := by simp [ckR, Array.getElem?_append]
theorem ckR_put {pc' : Array Value} (hs : pc.size = 99) (hs' : pc'.size = 99) : putAt (ckR h r k v p b pc) 6 (.agg pc') = ckR h r k v p b pc' := by
  have e := putAt_mid [h, r, k, v, .bool p, b] pc.toList [] (.agg pc') 6 rfl (by simp [Value.cells, hs, hs'])
  have e1 : ([h, r, k, v, .bool p, b] ++ (pc.toList ++ [])).toArray = ckR h r k v p b pc := by apply Array.ext'; simp [ckR]
  rw [e1] at e
  rw [e]
  apply Array.ext'
  simp [ckR, Value.cells]
theorem ckR_proof (hs : pc.size = 99) : (ckR h r k v p b pc).extract 6 (6 + 99) = pc := by
  have e := extract_mid [h, r, k, v, .bool p, b] pc.toList [] 6 99 rfl (by simp [hs])
  have e1 : ([h, r, k, v, .bool p, b] ++ (pc.toList ++ [])).toArray = ckR h r k v p b pc := by apply Array.ext'; simp [ckR]
  rw [e1] at e
  rw [e]
end

set_option maxHeartbeats 400000 in
theorem When_calls (b : Bool) (c : Int) (w : World) :
    Calls Tryz.prog 95 #[.bool b, .int .i64 c] w fun e w' => e = .returned (.int .i64 (if b then c else 0)) ∧ w' = w := by
  cases b
  · go_enter Tryz.func95, Tryz.ntmps95
    go_wp2
    go_ret
    exact ⟨rfl, rfl⟩
  · go_enter Tryz.func95, Tryz.ntmps95
    go_wp2
    go_ret
    exact ⟨rfl, rfl⟩

section
variable (h k v v' b : Value) (p : Bool) (pc : Array Value) (Kb : Nat)
set_option maxHeartbeats 1000000 in
theorem Step1_calls (ra : Option Addr) (rn rc : Nat) (hrn : rn ≤ maxLen) (w : World) (hrow : w.heap[Kb]? = some (.cells (ckR h (.slice ra rn rc) k v p b pc) 131 (0, 0))) :
    Calls Tryz.prog 94 #[.pointer (some ⟨Kb, 0, none⟩)] w fun e w' => e = .returned (.int .i64 (if rn = 32 then 0 else 4)) ∧ w' = w := by
  have hc : w.cell? ⟨Kb, 1, none⟩ = some (.slice ra rn rc) := by simp [World.cell?, hrow, ckR_1]
  have hW := Lib.hid (fun b c wx => When_calls b c wx)
  clear hrow
  unfold maxLen at hrn
  by_cases e : rn = 32
  · subst e
    go_enter Tryz.func94, Tryz.ntmps94
    go_wp2_with (first
      | (go_at_call 95; refine (hW.out _ _ _).mono ?_; rintro e w1 ⟨rfl, rfl⟩))
    go_ret
    exact ⟨by simp, rfl⟩
  · have e1 : ((rn : Nat) : Int) ≠ 32 := by omega
    go_enter Tryz.func94, Tryz.ntmps94
    go_wp2_with (first
      | (go_at_call 95; refine (hW.out _ _ _).mono ?_; rintro e w1 ⟨rfl, rfl⟩))
    go_ret
    exact ⟨by simp, rfl⟩
set_option maxHeartbeats 1000000 in
theorem Step2_calls (ka : Option Addr) (kn kc : Nat) (hkn : kn ≤ maxLen) (w : World) (hrow : w.heap[Kb]? = some (.cells (ckR h k (.slice ka kn kc) v p b pc) 131 (0, 0))) :
    Calls Tryz.prog 96 #[.pointer (some ⟨Kb, 0, none⟩)] w fun e w' => e = .returned (.int .i64 (if kn = 32 then 0 else 2)) ∧ w' = w := by
  have hc : w.cell? ⟨Kb, 2, none⟩ = some (.slice ka kn kc) := by simp [World.cell?, hrow, ckR_2]
  have hW := Lib.hid (fun b c wx => When_calls b c wx)
  clear hrow
  unfold maxLen at hkn
  by_cases e : kn = 32
  · subst e
    go_enter Tryz.func96, Tryz.ntmps96
    go_wp2_with (first
      | (go_at_call 95; refine (hW.out _ _ _).mono ?_; rintro e w1 ⟨rfl, rfl⟩))
    go_ret
    exact ⟨by simp, rfl⟩
  · have e1 : ((kn : Nat) : Int) ≠ 32 := by omega
    go_enter Tryz.func96, Tryz.ntmps96
    go_wp2_with (first
      | (go_at_call 95; refine (hW.out _ _ _).mono ?_; rintro e w1 ⟨rfl, rfl⟩))
    go_ret
    exact ⟨by simp, rfl⟩

set_option maxHeartbeats 1000000 in
theorem Step3_calls (va : Option Addr) (vn vc : Nat) (hvn : vn ≤ maxLen) (w : World) (hrow : w.heap[Kb]? = some (.cells (ckR h k v (.slice va vn vc) p b pc) 131 (0, 0))) :
    Calls Tryz.prog 97 #[.pointer (some ⟨Kb, 0, none⟩)] w fun e w' => (e = .returned (.int .i64 0) ∨ (e = .returned (.int .i64 3) ∧ 65535 < vn)) ∧ w' = w := by
  have hc : w.cell? ⟨Kb, 3, none⟩ = some (.slice va vn vc) := by simp [World.cell?, hrow, ckR_3]
  have hp : w.cell? ⟨Kb, 4, none⟩ = some (.bool p) := by simp [World.cell?, hrow, ckR_4]
  have hW := Lib.hid (fun b c wx => When_calls b c wx)
  clear hrow
  unfold maxLen at hvn
  cases p
  · go_enter Tryz.func97, Tryz.ntmps97
    go_wp2_with (first
      | (go_at_call 95; refine (hW.out _ _ _).mono ?_; rintro e w1 ⟨rfl, rfl⟩))
    go_ret
    first | exact ⟨.inl rfl, rfl⟩ | exact ⟨rfl, rfl⟩
  · by_cases e : 65535 < vn
    · have e1 : (65535 : Int) < (vn : Nat) := by omega
      go_enter Tryz.func97, Tryz.ntmps97
      go_wp2_with (first
        | (go_at_call 95; refine (hW.out _ _ _).mono ?_; rintro e w1 ⟨rfl, rfl⟩))
      go_ret
      first | exact ⟨.inr ⟨by simp, e⟩, rfl⟩ | exact ⟨.inr (by simp), rfl⟩
    · have e1 : ((vn : Nat) : Int) ≤ 65535 := by omega
      go_enter Tryz.func97, Tryz.ntmps97
      go_wp2_with (first
        | (go_at_call 95; refine (hW.out _ _ _).mono ?_; rintro e w1 ⟨rfl, rfl⟩))
      go_ret
      first | exact ⟨.inl (by simp), rfl⟩ | exact ⟨by simp, rfl⟩ | exact ⟨rfl, rfl⟩

theorem below_then {w w1 w2 : World} {row : Option Nat} (hb : Below w.heap.size w w1) (hg : w1.grownBy w2 row) : w.grownBy w2 row :=
  ⟨hg.os.trans hb.os, hg.tape.trans hb.tape, hg.output.trans hb.output, Nat.le_trans hb.size hg.size, fun i hi hr => (hg.block i (Nat.lt_of_lt_of_le hi hb.size) hr).trans (hb.block i hi)⟩
theorem RdD.turnNe {w w2 : World} {cb : Nat} {v : Value} {n : Nat} {l : List Nat} (h : RdD w v n l) (hg : w.grownBy w2 (some cb)) (hne : v.ownBlock ≠ some cb) : RdD w2 v n l := by
  refine ⟨h.1, h.2.1, ?_⟩
  rcases h.2.2 with h | ⟨b, off, cap, rfl, hcc⟩
  · exact .inl h
  · refine .inr ⟨b, off, cap, rfl, fun i hi => ?_⟩
    have h1 := hcc i hi
    refine (World.cell?_of_block (w := w) (hg.block b (block_lt_cell h1) ?_)).trans h1
    intro e
    obtain rfl : b = cb := Option.some.inj e
    exact hne rfl
/-- The proof that a check holds when it has been decoded. -/
def Decd (l : List Nat) (c : Int) (pc : Array Value) (w : World) : Prop :=
  (c = 0 ∧ decOk l ∧ ∃ s, pc = proofCells (kdOf l) (dpOf l) (lfOf l) (bmOf l) s ∧ RdD w s ((restOf l).length / 32) (restOf l)) ∨ ((c = 5 ∨ c = 6 ∨ c = 7) ∧ pc.size = 99 ∧ ¬ decOk l)

theorem DecPost.uni {l : List Nat} {w w' : World} {e : Ending} (h : DecPost l w e w') : ∃ pc c, e = .returned (.tuple #[.agg pc, .int .i64 c]) ∧ pc.size = 99 ∧ (∀ u ∈ pc.toList, u.oneCell' = true) ∧ (∀ b w2, b < w.heap.size → w'.grownBy w2 (some b) → Decd l c pc w2) ∧ Below w.heap.size w w' := by
  rcases h with ⟨⟨hok, s, rfl, hrd, hfr⟩ | ⟨hno, c, hc, rfl⟩, hb⟩
  · obtain ⟨a, cc, rfl⟩ := hrd.open
    have hlf : (lfOf l).length = 64 := by
      unfold lfOf
      split
      · rename_i h1
        have := hok.2.2.1 h1
        simp
        omega
      · simp
    have hbm : (bmOf l).length = 32 := by unfold bmOf; have := hok.1; simp; omega
    refine ⟨_, 0, rfl, proofCells_size hlf hbm, proofCells_one rfl, fun b w2 hlt hg => .inl ⟨rfl, hok, _, rfl, hrd.turnNe hg (fun e => ?_)⟩, hb⟩
    have := hfr b e
    omega
  · exact ⟨_, c, rfl, proofCells_size zero64_eq rfl, proofCells_one rfl, fun b w2 _ _ => .inr ⟨hc, proofCells_size zero64_eq rfl, hno⟩, hb⟩

set_option maxRecDepth 20000 in
set_option maxHeartbeats 1000000 in
theorem Step4_calls (l : List Nat) (hby : ∀ x ∈ l, x < 256) (hpc : pc.size = 99) (w : World) (hb : RdS w b l) (hrow : w.heap[Kb]? = some (.cells (ckR h k v v' p b pc) 131 (0, 0))) :
    Calls Tryz.prog 98 #[.pointer (some ⟨Kb, 0, none⟩)] w fun e w' => ∃ c pc', e = .returned (.int .i64 c) ∧ pc'.size = 99 ∧ Decd l c pc' w' ∧ w'.heap[Kb]? = some (.cells (ckR h k v v' p b pc') 131 (0, 0)) ∧ w.grownBy w' (some Kb) := by
  have hc : w.cell? ⟨Kb, 5, none⟩ = some b := by simp [World.cell?, hrow, ckR_5]
  have HD := Lib.hid (Decode_calls l b hby w hb)
  have HR := Lib.hid hrow
  have hlt := heap_lt hrow
  have Hp := Lib.hid hpc
  clear hrow hb hpc
  go_enter Tryz.func98, Tryz.ntmps98
  go_wp2_with (first
    | (go_at_call 12; refine HD.out.mono ?_; intro e w1 hd; obtain ⟨pc', c, rfl, hs', h1, hd', hbel⟩ := hd.uni; clear hd; have hr1 := (hbel.block _ hlt).trans HR.out; have Hs' := Lib.hid hs'; have H1 := Lib.hid h1; have Hd' := Lib.hid hd'; clear hs' h1 hd' hc)
    | (refine wpList_storePX rfl 43 _ _ rfl Kb 6 rfl (.agg pc') rfl _ _ hr1 (sizeProofOf Hs'.out) (by show 6 + pc'.size ≤ _; rw [ckR_size, Hs'.out, Hp.out]; exact Nat.le_refl _) H1.out _ (ckR_put Hp.out Hs'.out) ?_; intro w2 hg2 hr2))
  go_ret
  exact ⟨c, pc', rfl, Hs'.out, Hd'.out _ _ hlt hg2, hr2, below_then hbel hg2⟩
end

end Go.Proofs.YtlcngapphloafaaGreatDoor
end

/- Package verify: supports. -/
section
open Go Go.RowKit
namespace Go.Proofs.YtlcngapphloafaaGreatDoor
attribute [local irreducible] Inv.wpInv Mix.wpUp

/-- The value's digest, or none. -/
def dgV (KK : List Int) (bits : Int) (lv : List Nat) (p : Bool) : List Nat := if p = true then hashF KK bits (2 :: lv) else zero32
theorem Supports_any (kd dp : Int) (lf bm k d : List Nat) (s : Value) (p : Bool) (hl : lf.length = 64) (hlb : ∀ x ∈ lf, x < 256) (hb : bm.length = 32) (hk : Key k) (hd : d.length = 32) (w : World) :
    Calls Tryz.prog 146 #[.agg (proofCells kd dp lf bm s), .agg (kv k), .agg (kv d), .bool p] w fun e w' => e = .returned (.bool (supF kd dp lf k d p)) ∧ Below w.heap.size w w' := by
  cases p
  · exact Supports_absent kd dp lf bm k d s hl hlb hb hk w
  · exact Supports_present kd dp lf bm k d s hl hb hk.len hd w
theorem StH.old {w wx : World} {cb Kb : Nat} {m : Int} {L : List (Nat × Array Value × TypeId)} (st : StH w cb m L wx) (hlt : Kb < w.heap.size) (hne : Kb ≠ cb) : wx.heap[Kb]? = w.heap[Kb]? :=
  (StH.grown st).block Kb hlt (fun e => hne (Option.some.inj e))
section
variable {P : Program} {o : Oper} {a : Act}
theorem up_loadB {I : World → Prop} {F : Value → Prop} (ty : TypeId) (x : Operand) (ho : o.op = .load ty x)
    (b off n : Nat) (hx : a.eval x = .pointer (some ⟨b, off, none⟩)) (hagg : ∃ d, P.underlying ty = some d ∧ aggB d = true) (hi : (P.info? ty).map (·.size) = some n) (l : List Nat) (hl : n ≤ l.length)
    (hc : ∀ w, I w → ∀ k, k < l.length → w.cell? ⟨b, off + k, none⟩ = some (.int .u8 (l.getD k 0 : Nat))) (hF : F (.agg (kv (l.take n)))) : ∃ v, Mix.OpUp P I o a v ∧ F v := by
  refine ⟨_, fun w hw => ?_, hF⟩
  unfold execOp
  have hl := run_loadVar_bytes (P := P) hagg hi hl (hc w hw)
  simp only [ho, hx, Instr.loadAt, Instr.sureAddr, Sem.run_bind, Sem.run_pure, Result.andThen_ok, hl, Mix.ResUp]
  exact ⟨trivial, Below.refl _ _⟩
end

set_option maxRecDepth 20000 in
set_option maxHeartbeats 4000000 in
theorem supports_calls (KK : List Int) (r b s : Value) (p : Bool) (kd dp : Int) (lf bm kk lv : List Nat) (ka : Option Addr) (kc : Nat) (vs : Value) (hl : lf.length = 64) (hlb : ∀ x ∈ lf, x < 256) (hbm : bm.length = 32) (hkk : Key kk) (hlv : ∀ x ∈ lv, x < 256) (hln : lv.length ≤ 1000000)
    (Kb hb cb : Nat) (bits c : Int) (w : World) (hh : HasH hb cb bits c w) (hB : 0 ≤ bits ∧ bits ≤ 256) (hc : -4611686018427387904 ≤ c ∧ c ≤ 1000000) (hK : HasK KK w) (hks : RdB w (.slice ka 32 kc) kk) (hvs : RdB w vs lv) (hne : Kb ≠ cb)
    (hrow : w.heap[Kb]? = some (.cells (ckR (.pointer (some ⟨hb, 0, none⟩)) r (.slice ka 32 kc) vs p b (proofCells kd dp lf bm s)) 131 (0, 0))) :
    Calls Tryz.prog 100 #[.pointer (some ⟨Kb, 0, none⟩)] w fun e w' => ∃ (c' : Int), e = .returned (.bool (supF kd dp lf kk (dgV KK bits lv p) p)) ∧ c ≤ c' ∧ c' ≤ c + 1 ∧ w.grownBy w' (some cb) ∧ HasH hb cb bits c' w' := by
  have HH := Lib.hid hh
  have HKK := Lib.hid hK
  have hlt := heap_lt hrow
  have HRow : Hid (∀ m L wx, StH w cb m L wx → wx.heap[Kb]? = some (.cells (ckR (.pointer (some ⟨hb, 0, none⟩)) r (.slice ka 32 kc) vs p b (proofCells kd dp lf bm s)) 131 (0, 0))) := fun m L wx st => (StH.old st hlt hne).trans hrow
  have HC : Hid (∀ m L wx, StH w cb m L wx → wx.cell? ⟨Kb, 0, none⟩ = some (.pointer (some ⟨hb, 0, none⟩)) ∧ wx.cell? ⟨Kb, 2, none⟩ = some (.slice ka 32 kc) ∧ wx.cell? ⟨Kb, 3, none⟩ = some vs ∧ wx.cell? ⟨Kb, 4, none⟩ = some (.bool p)) := fun m L wx st => by
    have h := HRow.out m L wx st
    simp [World.cell?, h, ckR_0, ckR_2, ckR_3, ckR_4]
  have HPs : Hid ((proofCells kd dp lf bm s).size = 99) := proofCells_size hl hbm
  have HCs : Hid (6 + 99 ≤ (ckR (.pointer (some ⟨hb, 0, none⟩)) r (.slice ka 32 kc) vs p b (proofCells kd dp lf bm s)).size) := by unfold Hid; rw [ckR_size, HPs.out]; exact Nat.le_refl _
  have HCe : Hid ((ckR (.pointer (some ⟨hb, 0, none⟩)) r (.slice ka 32 kc) vs p b (proofCells kd dp lf bm s)).extract 6 (6 + 99) = proofCells kd dp lf bm s) := ckR_proof HPs.out
  have HSu := Lib.hid (fun d hd wx => Supports_any kd dp lf bm kk d s p hl hlb hbm hkk hd wx)
  have hkl := Lib.hid hkk.len
  have HKc0 : Hid (∃ kb ko, ka = some ⟨kb, ko, none⟩ ∧ ∀ m L wx, StH w cb m L wx → ∀ i, i < kk.length → wx.cell? ⟨kb, ko + i, none⟩ = some (.int .u8 (kk.getD i 0 : Nat))) := by
    have hk32 := hkk.len
    rcases hks.2 with ⟨h0, _⟩ | ⟨kb, ko, cap, he, _⟩
    · rw [h0] at hk32; cases hk32
    · injection he with he1 he2 he3
      refine ⟨kb, ko, he1, fun m L wx st i hi => ?_⟩
      rcases (StH.rd st hh hks).2 with ⟨h0, _⟩ | ⟨kb', ko', cap', he', hcc'⟩
      · rw [h0] at hk32; cases hk32
      · injection he' with h1 h2 h3
        rw [he1] at h1
        injection h1 with h1
        injection h1 with h1 h2 h3
        subst h1 h2
        exact hcc' i hi
  obtain ⟨kb, ko, rfl, HKc'⟩ := HKc0.out
  have HKc := Lib.hid HKc'
  clear HKc' HKc0
  have HV := Lib.hid hvs
  have Hlv : Hid (∀ x ∈ 2 :: lv, x < 256) := fun x hx => by
    rcases List.mem_cons.1 hx with rfl | hx
    · decide
    · exact hlv x hx
  have Hln := Lib.hid hln
  have HBc := Lib.hid (⟨hB, hc⟩ : (0 ≤ bits ∧ bits ≤ 256) ∧ (-4611686018427387904 ≤ c ∧ c ≤ 1000000))
  have hat := arrayAtKey ⟨kb, ko, none⟩ kc
  clear hh hK hrow hl hlb hbm hkk hlv hln hB hc hks hvs
  generalize proofCells kd dp lf bm s = pc at *
  generalize hR : ckR (.pointer (some ⟨hb, 0, none⟩)) r (.slice (some ⟨kb, ko, none⟩) 32 kc) vs p b pc = R at *
  clear hR
  have st := St.init w
  go_enter Tryz.func100, Tryz.ntmps100
  go_upto_region 2 with (first
    | (refine wpList_newA st rfl 38 rfl _ zeroDig ?_; intro b3 w1 st1; clear st))
  have st3 := StH.init HH.out st1
  have hq := HC.out _ _ _ st3
  go_upto_if 8 with fail
  go_cut [] from 9 to 19 (fun wx => ∃ c', StH w cb c' [(b3, kv (dgV KK bits lv p), 38)] wx ∧ c ≤ c' ∧ c' ≤ c + 1)
  case first =>
    cases p
    · go_wp2
      go_meet
      exact ⟨c, st3, Int.le_refl _, by omega⟩
    · go_upto_region 3 with (first | (fail "x"))
      refine Mix2.wp_region_mix (J := fun wx => ∃ m, StH w cb m [(b3, kv zero32, 38)] wx) 11 (StH w cb c [(b3, kv zero32, 38)]) mixed (by kernel_rfl) st3.drew ?_
      intro F inv
      refine Mix2.good_batch (f := 2) F St.up (fun _ h => ⟨_, h⟩) [0, 1, 2, 3, 4, 5, 6, 7, 8] _ _ inv (by kernel_rfl) ?_
      clear inv st3 hq
      have q : ∀ wx, (∃ m, StH w cb m [(b3, kv zero32, 38)] wx) → wx.cell? ⟨Kb, 0, none⟩ = some (.pointer (some ⟨hb, 0, none⟩)) ∧ wx.cell? ⟨Kb, 3, none⟩ = some vs := fun wx h => ⟨(HC.out _ _ _ h.choose_spec).1, (HC.out _ _ _ h.choose_spec).2.2.1⟩
      iterate 9
        (refine Mix.wpUp_cons rfl (fun K hK => ?_); go_simp; apply up_run; · (intro wx hw; have q1 := q wx hw; go_simp; (try go_ints); (try go_simp); (try (rw [if_pos (by omega)])); (try go_simp); (first | done | rfl))
         refine hK _ ?_; clear hK K)
      refine Mix.wpUp_nil ?_
      intro inv
      refine Mix2.good_one (i := 9) (f := 1) (by kernel_rfl) inv (fun w3 st3 => ?_)
      clear inv
      refine mxOp_call rfl rfl 145 #[vs] (by go_simp) ?_
      refine (Value_calls lv vs w3 (by have := Hln.out; omega) (StH.rd st3 HH.out HV.out)).mono ?_
      rintro e w4 ⟨v4, rfl, hv4, hbel⟩
      refine ⟨v4, rfl, fun wx => StH w cb c [(b3, kv zero32, 38)] wx ∧ RdB wx v4 (2 :: lv), ?_, ⟨st3.call hbel, hv4⟩, fun _ h => ⟨_, h.1⟩, fun inv => ?_⟩
      · exact fun wx wy h hb => ⟨St.call h.1 hb, h.2.call hb⟩
      clear st3 hbel hv4
      refine Mix2.good_one (i := 10) (f := 0) (by kernel_rfl) inv (fun w5 st5 => ?_)
      clear inv
      obtain ⟨st5, hv5⟩ := st5
      refine mxOp_call rfl rfl 82 #[.pointer (some ⟨hb, 0, none⟩), v4] (by go_simp) ?_
      refine (HSum_calls KK (2 :: lv) v4 hb cb bits c w5 (StH.has st5 HH.out) HBc.out.1 (by have := HBc.out.2; omega) Hlv.out (by have := Hln.out; simp; omega) hv5 (StH.hasK st5 HH.out HKK.out)).mono ?_
      rintro e w6 ⟨rfl, hg6, hh6⟩
      have Hd := Lib.hid (hashF_key KK bits (2 :: lv)).len
      generalize hdd : hashF KK bits (2 :: lv) = d at *
      have HDD := Lib.hid hdd
      clear hdd
      refine ⟨_, rfl, StH w cb (c + 1) [(b3, kv zero32, 38)], St.up, StH.sum st5 HH.out hg6 hh6, fun _ h => ⟨_, h⟩, fun inv => ?_⟩
      clear st5 hv5 hg6 hh6 inv F
      refine ⟨by kernel_rfl, fun w9 st9 => ?_⟩
      simp only [List.drop_succ_cons, List.drop_zero]
      go_wp2_with (first
        | (refine wpList_storeR st9 rfl 38 _ _ rfl 0 b3 rfl (.agg (kv d)) rfl _ _ rfl (sizeDg Hd.out) (by show (kv d).size = _; rw [kv_size, Hd.out, kv_size]; rfl) (kv_one _) _ rfl ?_; intro w7 st7; clear st9))
      go_meet
      have e : dgV KK bits lv true = d := HDD.out
      rw [e]
      exact ⟨c + 1, st7, by omega, Int.le_refl _⟩
  case rest =>
  clear st3 hq
  obtain ⟨c', st3, hc1, hc2⟩ := hcut
  have hdl : (dgV KK bits lv p).length = 32 := by
    unfold dgV
    split
    · exact (hashF_key KK bits (2 :: lv)).len
    · rfl
  generalize hD : (dgV KK bits lv p) = d at *
  have HD := Lib.hid hD
  clear hD
  go_upto_region 4 with (first | (fail "x"))
  have Hd := Lib.hid hdl
  have HSu2 := Lib.hid (HSu.out d hdl)
  clear hdl HSu
  refine Mix2.wp_region_mix (J := fun wx => StH w cb c' [(b3, kv d, 38)] wx) 18 (StH w cb c' [(b3, kv d, 38)]) mixed (by kernel_rfl) st3.drew ?_
  intro F inv
  refine Mix2.good_batch (f := 1) F St.up (fun _ h => h) [0, 1, 2, 3, 4, 5, 6, 7, 8, 9, 10, 11, 12, 13, 14, 15, 16] _ _ inv (by kernel_rfl) ?_
  clear inv st3
  have q : ∀ wx, StH w cb c' [(b3, kv d, 38)] wx → wx.cell? ⟨Kb, 2, none⟩ = some (.slice (some ⟨kb, ko, none⟩) 32 kc) ∧ wx.cell? ⟨Kb, 4, none⟩ = some (.bool p) := fun wx h => ⟨(HC.out _ _ _ h).2.1, (HC.out _ _ _ h).2.2.2⟩
  iterate 3
    (refine Mix.wpUp_cons rfl (fun K hK => ?_); go_simp; apply up_run; · (intro wx hw; have q1 := q wx hw; go_simp; (try go_ints); (try go_simp); (try (rw [if_pos (by omega)])); (try go_simp); (first | done | rfl))
     refine hK _ ?_; clear hK K)
  (refine Mix.wpUp_cons rfl (fun K hK => ?_); go_simp; refine up_loadP 43 _ rfl Kb 6 99 rfl aggProof _ _ (fun wx hw => HRow.out _ _ _ hw) (by have h := sizeProofOf HPs.out; rwa [HPs.out] at h) HCs.out _ HCe.out ?_
   refine hK _ ?_; clear hK K)
  iterate 6
    (refine Mix.wpUp_cons rfl (fun K hK => ?_); go_simp; apply up_run; · (intro wx hw; have q1 := q wx hw; go_simp; (try go_ints); (try go_simp); (try (rw [if_pos (by omega)])); (try go_simp); (first | done | rfl))
     refine hK _ ?_; clear hK K)
  (refine Mix.wpUp_cons rfl (fun K hK => ?_); go_simp; refine up_loadB 37 _ rfl kb ko 32 rfl aggKeyE sizeKey0 kk (by rw [hkl.out]; exact Nat.le_refl _) (fun wx hw => HKc.out _ _ _ hw) ?_; rw [List.take_of_length_le (Nat.le_of_eq hkl.out)]
   refine hK _ ?_; clear hK K)
  (refine Mix.wpUp_cons rfl (fun K hK => ?_); go_simp; refine up_loadR 38 _ rfl b3 rfl _ aggDig rfl _ _ (fun wx hw => hw.at (i := 0) rfl) (sizeDg Hd.out) ?_
   refine hK _ ?_; clear hK K)
  iterate 5
    (refine Mix.wpUp_cons rfl (fun K hK => ?_); go_simp; apply up_run; · (intro wx hw; have q1 := q wx hw; go_simp; (try go_ints); (try go_simp); (try (rw [if_pos (by omega)])); (try go_simp); (first | done | rfl))
     refine hK _ ?_; clear hK K)
  refine Mix.wpUp_nil ?_
  intro inv
  refine Mix2.good_one (i := 17) (f := 0) (by kernel_rfl) inv (fun w3 st3 => ?_)
  clear inv
  refine mxOp_call rfl rfl 146 #[.agg pc, .agg (kv kk), .agg (kv d), .bool p] (by go_simp) ?_
  refine (HSu2.out w3).mono ?_
  rintro e w4 ⟨rfl, hbel⟩
  refine ⟨_, rfl, StH w cb c' [(b3, kv d, 38)], St.up, st3.call hbel, fun _ h => h, fun inv => ?_⟩
  clear st3 hbel inv F
  have Hres : Hid (supF kd dp lf kk (dgV KK bits lv p) p = supF kd dp lf kk d p) := by unfold Hid; rw [HD.out]
  generalize supF kd dp lf kk d p = res at *
  refine ⟨by kernel_rfl, fun w9 st9 => ?_⟩
  simp only [List.drop_succ_cons, List.drop_zero]
  go_wp2
  go_ret
  exact ⟨c', by rw [Hres.out]; rfl, hc1, hc2, StH.grown st9, StH.has st9 HH.out⟩

end Go.Proofs.YtlcngapphloafaaGreatDoor
end

/- Package verify: leads. -/
section
open Go Go.RowKit
namespace Go.Proofs.YtlcngapphloafaaGreatDoor
attribute [local irreducible] Inv.wpInv Mix.wpUp

theorem arrayAtDig (a : Addr) (cap : Nat) (w : World) : (Instr.arrayAt 38 (.slice (some a) 32 cap)).run Tryz.prog w = .ok (.pointer (some a)) w := by kernel_rfl
/-- Bytes of a slice as they lie while the counter turns. -/
theorem RdB.far {w : World} {hb cb : Nat} {bits c : Int} {a : Option Addr} {n cap : Nat} {l : List Nat} (hh : HasH hb cb bits c w) (h : RdB w (.slice a n cap) l) (hl : 0 < l.length) :
    ∃ kb ko, a = some ⟨kb, ko, none⟩ ∧ ∀ m L wx, StH w cb m L wx → ∀ i, i < l.length → wx.cell? ⟨kb, ko + i, none⟩ = some (.int .u8 (l.getD i 0 : Nat)) := by
  rcases h.2 with ⟨h0, _⟩ | ⟨kb, ko, cap, he, _⟩
  · rw [h0] at hl; exact absurd hl (by decide)
  · injection he with he1 he2 he3
    refine ⟨kb, ko, he1, fun m L wx st i hi => ?_⟩
    rcases (StH.rd st hh h).2 with ⟨h0, _⟩ | ⟨kb', ko', cap', he', hcc'⟩
    · rw [h0] at hl; exact absurd hl (by decide)
    · injection he' with h1 h2 h3
      rw [he1] at h1
      injection h1 with h1
      injection h1 with h1 h2 h3
      subst h1 h2
      exact hcc' i hi

section
variable {P : Program} {ops : Array Oper} {B : Nat} {w0 w : World} {L : List (Nat × Array Value × TypeId)} {a : Act}
theorem mxOp_storeR (st : St B w0 L w) {j : Nat} {o : Oper} {K : Act → World → Prop} (hi0 : ops[j]? = some o) (hw : Region.wanted o (yielded ops a.tmps) = true) (ty : TypeId) (x y : Operand) (ho : o.op = .store ty x y)
    (i : Nat) (b : Nat) (hx : a.eval x = .pointer (some ⟨b, 0, none⟩)) (v : Value) (hy : a.eval y = v) (old : Array Value) (t : TypeId) (hL : L[i]? = some (b, old, t))
    (hi : (P.info? ty).map (·.size) = some v.cells.size) (hs : v.cells.size = old.size) (h1 : ∀ u ∈ v.cells.toList, u.oneCell' = true)
    (L' : List (Nat × Array Value × TypeId)) (hL' : L.set i (b, v.cells, t) = L')
    (h : ∀ w1, St B w0 L' w1 → K (a.put o.dst undef) w1) : Mix.mxOp P ops j K a w := by
  refine Mix.mxOp_go hi0 hw ?_
  unfold Oper.wp execOp
  simp only [ho, hx, hy, Instr.storeAt, Instr.sureAddr, Sem.run_bind, Sem.run_pure, Result.andThen_ok, run_storeVar_row w b t ty old v (st.at hL) hi hs h1, Oper.upon]
  exact h _ (st.put hL _ hL')
end

theorem inv_loadB {P : Program} {o : Oper} {a : Act} {I : World → Prop} {F : Value → Prop} (ty : TypeId) (x : Operand) (ho : o.op = .load ty x)
    (b off n : Nat) (hx : a.eval x = .pointer (some ⟨b, off, none⟩)) (hagg : ∃ d, P.underlying ty = some d ∧ aggB d = true) (hi : (P.info? ty).map (·.size) = some n) (l : List Nat) (hl : n ≤ l.length)
    (hc : ∀ w, I w → ∀ k, k < l.length → w.cell? ⟨b, off + k, none⟩ = some (.int .u8 (l.getD k 0 : Nat))) (hF : F (.agg (kv (l.take n)))) : ∃ v, Inv.OpInv P I o a v ∧ F v := by
  refine ⟨_, fun w hw => ?_, hF⟩
  unfold execOp
  have hl := run_loadVar_bytes (P := P) hagg hi hl (hc w hw)
  simp only [ho, hx, Instr.loadAt, Instr.sureAddr, Sem.run_bind, Sem.run_pure, Result.andThen_ok, hl]
  exact ⟨rfl, hw⟩

set_option maxRecDepth 20000 in
set_option maxHeartbeats 4000000 in
theorem leads_calls (KK : List Int) (b : Value) (p : Bool) (kd : Int) (dp : Nat) (lf bm sib kk rr : List Nat) (ra ka av : Option Addr) (rc kc n cv : Nat) (vs : Value) (hl : lf.length = 64) (hlb : ∀ x ∈ lf, x < 256) (hbm : Key bm) (hkk : Key kk) (hrr : rr.length = 32) (hsb : ∀ x ∈ sib, x < 256) (hck : checkF kd dp lf bm n = 0)
    (Kb hb cb : Nat) (bits c : Int) (w : World) (hh : HasH hb cb bits c w) (hB : 0 ≤ bits ∧ bits ≤ 256) (hc : -4611686018427387904 ≤ c ∧ c ≤ 1000000) (hK : HasK KK w) (hks : RdB w (.slice ka 32 kc) kk) (hrs : RdB w (.slice ra 32 rc) rr) (hs : RdD w (.slice av n cv) n sib) (hne : Kb ≠ cb)
    (hrow : w.heap[Kb]? = some (.cells (ckR (.pointer (some ⟨hb, 0, none⟩)) (.slice ra 32 rc) (.slice ka 32 kc) vs p b (proofCells kd dp lf bm (.slice av n cv))) 131 (0, 0))) :
    Calls Tryz.prog 102 #[.pointer (some ⟨Kb, 0, none⟩)] w fun e w' => e = .returned (.bool (decide (belF KK bits (endF kd lf) kk (expF (hashF KK bits [3]) dp (setB bm) sib) dp dp = rr))) ∧ w.grownBy w' (some cb) ∧ HasH hb cb bits (c + 2 + dp) w' := by
  have HH := Lib.hid hh
  have HKK := Lib.hid hK
  have hlt := heap_lt hrow
  have HRow : Hid (∀ m L wx, StH w cb m L wx → wx.heap[Kb]? = some (.cells (ckR (.pointer (some ⟨hb, 0, none⟩)) (.slice ra 32 rc) (.slice ka 32 kc) vs p b (proofCells kd dp lf bm (.slice av n cv))) 131 (0, 0))) := fun m L wx st => (StH.old st hlt hne).trans hrow
  have HC : Hid (∀ m L wx, StH w cb m L wx → wx.cell? ⟨Kb, 0, none⟩ = some (.pointer (some ⟨hb, 0, none⟩)) ∧ wx.cell? ⟨Kb, 1, none⟩ = some (.slice ra 32 rc) ∧ wx.cell? ⟨Kb, 2, none⟩ = some (.slice ka 32 kc)) := fun m L wx st => by
    have h := HRow.out m L wx st
    simp [World.cell?, h, ckR_0, ckR_1, ckR_2]
  have HPs : Hid ((proofCells kd dp lf bm (.slice av n cv)).size = 99) := proofCells_size hl hbm.len
  have HCs : Hid (6 + 99 ≤ (ckR (.pointer (some ⟨hb, 0, none⟩)) (.slice ra 32 rc) (.slice ka 32 kc) vs p b (proofCells kd dp lf bm (.slice av n cv))).size) := by unfold Hid; rw [ckR_size, HPs.out]; exact Nat.le_refl _
  have HCe : Hid ((ckR (.pointer (some ⟨hb, 0, none⟩)) (.slice ra 32 rc) (.slice ka 32 kc) vs p b (proofCells kd dp lf bm (.slice av n cv))).extract 6 (6 + 99) = proofCells kd dp lf bm (.slice av n cv)) := ckR_proof HPs.out
  have HE := Lib.hid (fun wx h1 h2 h3 => Root_calls KK kd dp lf bm sib kk av n cv hl hlb hbm hkk hsb hck hb cb bits c wx h1 hB hc h2 h3)
  have Hbl := Lib.hid (belF_key KK bits (endF kd lf) kk (expF (hashF KK bits [3]) dp (setB bm) sib) dp dp).len
  obtain ⟨kb, ko, rfl, HKc'⟩ := RdB.far hh hks (by rw [hkk.len]; decide)
  obtain ⟨rb, ro, rfl, HRc'⟩ := RdB.far hh hrs (by rw [hrr]; decide)
  have HKc := Lib.hid HKc'
  have HRc := Lib.hid HRc'
  have hkl := Lib.hid hkk.len
  have hrl := Lib.hid hrr
  have HRd := Lib.hid hs
  have hat := arrayAtKey ⟨kb, ko, none⟩ kc
  have hat2 := arrayAtDig ⟨rb, ro, none⟩ rc
  have hg := guardDig
  clear HKc' HRc' hh hK hrow hl hlb hbm hkk hB hc hks hrs hs hsb hck hrr
  generalize belF KK bits (endF kd lf) kk (expF (hashF KK bits [3]) dp (setB bm) sib) dp dp = d at *
  generalize proofCells kd dp lf bm (.slice av n cv) = pc at *
  generalize hR : ckR (.pointer (some ⟨hb, 0, none⟩)) (.slice (some ⟨rb, ro, none⟩) 32 rc) (.slice (some ⟨kb, ko, none⟩) 32 kc) vs p b pc = R at *
  clear hR
  have hq := eqlDig d rr Hbl.out hrl.out
  have st := St.init w
  have st0 := StH.init HH.out st
  clear st
  go_enter Tryz.func102, Tryz.ntmps102
  go_upto_region 1 with (first | (fail "x"))
  go_cut [3, 4] from 5 to 23 (fun s3 s4 wx => ∃ b3, s3 = .pointer (some ⟨b3, 0, none⟩) ∧ s4 = .int .i64 0 ∧ StH w cb (c + 2 + dp) [(b3, kv d, 38)] wx)
  case first =>
    refine Mix2.wp_region_mix (J := fun wx => ∃ m L, StH w cb m L wx) 21 (StH w cb c []) mixed (by kernel_rfl) st0.drew ?_
    intro F inv
    refine Mix2.good_batch (f := 6) F St.up (fun _ h => ⟨_, _, h⟩) [0, 1, 2, 3, 4, 5, 6, 7, 8, 9, 10, 11, 12, 13, 14] _ _ inv (by kernel_rfl) ?_
    clear inv st0
    have q : ∀ wx, (∃ m L, StH w cb m L wx) → wx.cell? ⟨Kb, 0, none⟩ = some (.pointer (some ⟨hb, 0, none⟩)) ∧ wx.cell? ⟨Kb, 2, none⟩ = some (.slice (some ⟨kb, ko, none⟩) 32 kc) := fun wx h => by
      obtain ⟨m, L, h⟩ := h
      exact ⟨(HC.out _ _ _ h).1, (HC.out _ _ _ h).2.2⟩
    iterate 4
      (refine Mix.wpUp_cons rfl (fun K hK => ?_); go_simp; apply up_run; · (intro wx hw; have q1 := q wx hw; go_simp; (try go_ints); (try go_simp); (try (rw [if_pos (by omega)])); (try go_simp); (first | done | rfl))
       refine hK _ ?_; clear hK K)
    iterate 3
      (refine Mix.wpUp_cons rfl (fun K hK => ?_); go_simp; apply up_run; · (intro wx hw; have q1 := q wx hw; go_simp; (try go_ints); (try go_simp); (try (rw [if_pos (by omega)])); (try go_simp); (first | done | rfl))
       refine hK _ ?_; clear hK K)
    (refine Mix.wpUp_cons rfl (fun K hK => ?_); go_simp; refine up_loadP 43 _ rfl Kb 6 99 rfl aggProof _ _ (fun wx hw => HRow.out _ _ _ hw.choose_spec.choose_spec) (by have h := sizeProofOf HPs.out; rwa [HPs.out] at h) HCs.out _ HCe.out ?_
     refine hK _ ?_; clear hK K)
    iterate 6
      (refine Mix.wpUp_cons rfl (fun K hK => ?_); go_simp; apply up_run; · (intro wx hw; have q1 := q wx hw; go_simp; (try go_ints); (try go_simp); (try (rw [if_pos (by omega)])); (try go_simp); (first | done | rfl))
       refine hK _ ?_; clear hK K)
    (refine Mix.wpUp_cons rfl (fun K hK => ?_); go_simp; refine up_loadB 37 _ rfl kb ko 32 rfl aggKeyE sizeKey0 kk (by rw [hkl.out]; exact Nat.le_refl _) (fun wx hw => HKc.out _ _ _ hw.choose_spec.choose_spec) ?_; rw [List.take_of_length_le (Nat.le_of_eq hkl.out)]
     refine hK _ ?_; clear hK K)
    refine Mix.wpUp_nil ?_
    intro inv
    refine Mix2.good_two (i := 15) (k := 19) (f := 5) (by kernel_rfl) inv (fun w5 st5 => ?_) (fun w5 st5 => ?_)
    · clear inv q
      refine mxOp_call rfl rfl 19 #[.pointer (some ⟨hb, 0, none⟩), .agg pc, .agg (kv kk)] (by go_simp) ?_
      refine (HE.out _ (StH.has st5 HH.out) (StH.hasK st5 HH.out HKK.out) (HRd.out.turn HH.out.c (StH.grown st5))).mono ?_
      rintro e w6 ⟨rfl, hg6, hh6⟩
      refine ⟨_, rfl, StH w cb (c + 2 + dp) [], St.up, StH.sum st5 HH.out hg6 hh6, fun _ h => ⟨_, _, h⟩, fun inv => ?_⟩
      clear st5 hg6 hh6
      refine Mix2.good_batch (f := 2) F St.up (fun _ h => ⟨_, _, h⟩) [16, 17, 18] _ _ inv (by kernel_rfl) ?_
      clear inv
      iterate 3
        (refine Mix.wpUp_cons rfl (fun K hK => ?_); go_simp; apply up_run; · (intro wx hw; go_simp; (try go_ints); (try go_simp); (try (rw [if_pos (by omega)])); (try go_simp); (first | done | rfl))
         refine hK _ ?_; clear hK K)
      refine Mix.wpUp_nil ?_
      intro inv
      refine Mix2.good_one (i := 19) (f := 1) (by kernel_rfl) inv (fun w7 st7 => ?_)
      clear inv
      refine mxOp_newA st7 rfl rfl 38 rfl _ zeroDig (fun b3 w8 st8 => ?_)
      refine ⟨_, St.up, st8, fun _ h => ⟨_, _, h⟩, fun inv => ?_⟩
      clear st7 st8
      refine Mix2.good_one (i := 20) (f := 0) (by kernel_rfl) inv (fun w9 st9 => ?_)
      clear inv
      refine mxOp_storeR st9 rfl rfl 38 _ _ rfl 0 b3 rfl (.agg (kv d)) rfl _ _ rfl (sizeDg Hbl.out) (by show (kv d).size = _; rw [kv_size, Hbl.out, kv_size]; rfl) (kv_one _) _ rfl (fun w10 st10 => ?_)
      refine ⟨_, St.up, st10, fun _ h => ⟨_, _, h⟩, fun inv => ?_⟩
      clear st9 st10 inv F
      refine ⟨by kernel_rfl, fun w10 st10 => ?_⟩
      simp only [List.drop_succ_cons, List.drop_zero]
      go_wp2
      go_meet
      exact ⟨b3, rfl, rfl, st10⟩
    · clear inv q
      refine mxOp_newA st5 rfl rfl 38 rfl _ zeroDig (fun b3 w6 st6 => ?_)
      refine ⟨_, St.up, st6, fun _ h => ⟨_, _, h⟩, fun inv => ?_⟩
      clear st5 st6
      refine Mix2.good_one (i := 15) (f := 4) (by kernel_rfl) inv (fun w6 st6 => ?_)
      clear inv
      refine mxOp_call rfl rfl 19 #[.pointer (some ⟨hb, 0, none⟩), .agg pc, .agg (kv kk)] (by go_simp) ?_
      refine (HE.out _ (StH.has st6 HH.out) (StH.hasK st6 HH.out HKK.out) (HRd.out.turn HH.out.c (StH.grown st6))).mono ?_
      rintro e w7 ⟨rfl, hg7, hh7⟩
      refine ⟨_, rfl, StH w cb (c + 2 + dp) [(b3, kv zero32, 38)], St.up, StH.sum st6 HH.out hg7 hh7, fun _ h => ⟨_, _, h⟩, fun inv => ?_⟩
      clear st6 hg7 hh7
      refine Mix2.good_batch (f := 1) F St.up (fun _ h => ⟨_, _, h⟩) [16, 17, 18] _ _ inv (by kernel_rfl) ?_
      clear inv
      iterate 3
        (refine Mix.wpUp_cons rfl (fun K hK => ?_); go_simp; apply up_run; · (intro wx hw; go_simp; (try go_ints); (try go_simp); (try (rw [if_pos (by omega)])); (try go_simp); (first | done | rfl))
         refine hK _ ?_; clear hK K)
      refine Mix.wpUp_nil ?_
      intro inv
      refine Mix2.good_one (i := 20) (f := 0) (by kernel_rfl) inv (fun w9 st9 => ?_)
      clear inv
      refine mxOp_storeR st9 rfl rfl 38 _ _ rfl 0 b3 rfl (.agg (kv d)) rfl _ _ rfl (sizeDg Hbl.out) (by show (kv d).size = _; rw [kv_size, Hbl.out, kv_size]; rfl) (kv_one _) _ rfl (fun w10 st10 => ?_)
      refine ⟨_, St.up, st10, fun _ h => ⟨_, _, h⟩, fun inv => ?_⟩
      clear st9 st10 inv F
      refine ⟨by kernel_rfl, fun w10 st10 => ?_⟩
      simp only [List.drop_succ_cons, List.drop_zero]
      go_wp2
      go_meet
      exact ⟨b3, rfl, rfl, st10⟩
  case rest =>
  clear st0
  obtain ⟨b3, rfl, rfl, st3⟩ := hcut
  go_upto_region 2 with (first | (fail "x"))
  cases hdr : decide (d = rr)
  · rw [hdr] at hq
    refine region_inv 12 st3 mixed (by kernel_rfl) ?_
    intro I hI hI'
    have q : ∀ wx, I wx → wx.cell? ⟨Kb, 1, none⟩ = some (.slice (some ⟨rb, ro, none⟩) 32 rc) := fun wx hw => (HC.out _ _ _ (hI wx hw)).2.1
    simp only [List.take_succ_cons, List.take_zero, List.drop_succ_cons, List.drop_zero]
    iterate 3
      (refine Inv.wpInv_step (fun K hK => ?_); go_simp; apply inv_run; · (intro wx hw; go_simp; (try go_ints); (try go_simp); (try (rw [if_pos (by omega)])); (try go_simp); (first | done | rfl))
       refine hK _ ?_; clear hK K)
    (refine Inv.wpInv_step (fun K hK => ?_); go_simp; refine inv_loadR 38 _ rfl b3 rfl _ aggDig rfl _ _ (fun wx hw => (hI wx hw).at (i := 0) rfl) (sizeDg Hbl.out) ?_
     refine hK _ ?_; clear hK K)
    iterate 5
      (refine Inv.wpInv_step (fun K hK => ?_); go_simp; apply inv_run; · (intro wx hw; have q1 := q wx hw; go_simp; (try go_ints); (try go_simp); (try (rw [if_pos (by omega)])); (try go_simp); (first | done | rfl))
       refine hK _ ?_; clear hK K)
    (refine Inv.wpInv_step (fun K hK => ?_); go_simp; refine inv_loadB 38 _ rfl rb ro 32 rfl aggDigE sizeDig0 rr (by rw [hrl.out]; exact Nat.le_refl _) (fun wx hw => HRc.out _ _ _ (hI wx hw)) ?_; rw [List.take_of_length_le (Nat.le_of_eq hrl.out)]
     refine hK _ ?_; clear hK K)
    iterate 2
      (refine Inv.wpInv_step (fun K hK => ?_); go_simp; apply inv_run; · (intro wx hw; go_simp; (try go_ints); (try go_simp); (try (rw [if_pos (by omega)])); (try go_simp); (first | done | rfl))
       refine hK _ ?_; clear hK K)
    clear q hI hI'
    refine Inv.wpInv_nil ?_
    intro w4 st4
    clear st3
    go_wp2
    go_ret
    exact ⟨by rw [hdr]; rfl, StH.grown st4, StH.has st4 HH.out⟩
  · rw [hdr] at hq
    refine region_inv 12 st3 mixed (by kernel_rfl) ?_
    intro I hI hI'
    have q : ∀ wx, I wx → wx.cell? ⟨Kb, 1, none⟩ = some (.slice (some ⟨rb, ro, none⟩) 32 rc) := fun wx hw => (HC.out _ _ _ (hI wx hw)).2.1
    simp only [List.take_succ_cons, List.take_zero, List.drop_succ_cons, List.drop_zero]
    iterate 3
      (refine Inv.wpInv_step (fun K hK => ?_); go_simp; apply inv_run; · (intro wx hw; go_simp; (try go_ints); (try go_simp); (try (rw [if_pos (by omega)])); (try go_simp); (first | done | rfl))
       refine hK _ ?_; clear hK K)
    (refine Inv.wpInv_step (fun K hK => ?_); go_simp; refine inv_loadR 38 _ rfl b3 rfl _ aggDig rfl _ _ (fun wx hw => (hI wx hw).at (i := 0) rfl) (sizeDg Hbl.out) ?_
     refine hK _ ?_; clear hK K)
    iterate 5
      (refine Inv.wpInv_step (fun K hK => ?_); go_simp; apply inv_run; · (intro wx hw; have q1 := q wx hw; go_simp; (try go_ints); (try go_simp); (try (rw [if_pos (by omega)])); (try go_simp); (first | done | rfl))
       refine hK _ ?_; clear hK K)
    (refine Inv.wpInv_step (fun K hK => ?_); go_simp; refine inv_loadB 38 _ rfl rb ro 32 rfl aggDigE sizeDig0 rr (by rw [hrl.out]; exact Nat.le_refl _) (fun wx hw => HRc.out _ _ _ (hI wx hw)) ?_; rw [List.take_of_length_le (Nat.le_of_eq hrl.out)]
     refine hK _ ?_; clear hK K)
    iterate 2
      (refine Inv.wpInv_step (fun K hK => ?_); go_simp; apply inv_run; · (intro wx hw; go_simp; (try go_ints); (try go_simp); (try (rw [if_pos (by omega)])); (try go_simp); (first | done | rfl))
       refine hK _ ?_; clear hK K)
    clear q hI hI'
    refine Inv.wpInv_nil ?_
    intro w4 st4
    clear st3
    go_wp2
    go_ret
    exact ⟨by rw [hdr]; rfl, StH.grown st4, StH.has st4 HH.out⟩

end Go.Proofs.YtlcngapphloafaaGreatDoor
end

/- Package verify: the last two steps, and the list of steps. -/
section
open Go Go.RowKit
namespace Go.Proofs.YtlcngapphloafaaGreatDoor
attribute [local irreducible] Inv.wpInv Mix.wpUp

set_option maxHeartbeats 1000000 in
theorem Step5_of (Kb : Nat) (w : World) (r : Bool) (R : World → Prop) (H : Calls Tryz.prog 100 #[.pointer (some ⟨Kb, 0, none⟩)] w fun e w' => e = .returned (.bool r) ∧ R w') :
    Calls Tryz.prog 99 #[.pointer (some ⟨Kb, 0, none⟩)] w fun e w' => e = .returned (.int .i64 (if r then 0 else 12)) ∧ R w' := by
  have hW := Lib.hid (fun b c wx => When_calls b c wx)
  have H := Lib.hid H
  go_enter Tryz.func99, Tryz.ntmps99
  go_wp2_with (first
    | (go_at_call 100; refine H.out.mono ?_; rintro e w1 ⟨rfl, hR⟩; have HR := Lib.hid hR; clear hR)
    | (go_at_call 95; refine (hW.out _ _ _).mono ?_; rintro e w2 ⟨rfl, rfl⟩))
  all_goals
    go_ret
    exact ⟨rfl, HR.out⟩

set_option maxHeartbeats 1000000 in
theorem Step6_of (Kb : Nat) (w : World) (r : Bool) (R : World → Prop) (H : Calls Tryz.prog 102 #[.pointer (some ⟨Kb, 0, none⟩)] w fun e w' => e = .returned (.bool r) ∧ R w') :
    Calls Tryz.prog 101 #[.pointer (some ⟨Kb, 0, none⟩)] w fun e w' => e = .returned (.int .i64 (if r then 0 else 13)) ∧ R w' := by
  have hW := Lib.hid (fun b c wx => When_calls b c wx)
  have H := Lib.hid H
  go_enter Tryz.func101, Tryz.ntmps101
  go_wp2_with (first
    | (go_at_call 102; refine H.out.mono ?_; rintro e w1 ⟨rfl, hR⟩; have HR := Lib.hid hR; clear hR)
    | (go_at_call 95; refine (hW.out _ _ _).mono ?_; rintro e w2 ⟨rfl, rfl⟩))
  all_goals
    go_ret
    exact ⟨rfl, HR.out⟩

/-- The steps' functions. -/
def stepFs : Array Value := #[.func (.func 94) #[] #[], .func (.func 96) #[] #[], .func (.func 97) #[] #[], .func (.func 98) #[] #[], .func (.func 99) #[] #[], .func (.func 101) #[] #[]]
theorem sliceStep : Tryz.prog.underlying 132 = some (.slice 136) := by kernel_rfl
theorem sizeStep : (Tryz.prog.info? 136).map (·.size) = some 1 := by kernel_rfl
theorem zeroStep : (Tryz.prog.info? 136).bind (·.zero) = some (.agg #[.nilFunc]) := by kernel_rfl
theorem fillStep (a b c d e f : Value) : Instr.fill (fun i => some (i * 1, 1)) ((Array.range (6 * 1)).map ((Value.agg #[.nilFunc]).cells[· % (Value.agg #[.nilFunc]).cells.size]!)) [(0, .agg #[a]), (1, .agg #[b]), (2, .agg #[c]), (3, .agg #[d]), (4, .agg #[e]), (5, .agg #[f])] = some #[a, b, c, d, e, f] := by kernel_rfl
theorem builtStep (f : FuncId) : Tryz.prog.built 136 [(0, .func (.func f) #[] #[])] = some #[.func (.func f) #[] #[]] := by kernel_rfl

set_option maxHeartbeats 1000000 in
theorem steps_calls (w : World) : Calls Tryz.prog 57 #[] w fun e w' => ∃ g, e = .returned (.slice (some ⟨g, 0, none⟩) 6 6) ∧ St w.heap.size w [(g, stepFs, 136)] w' := by
  have st := St.init w
  go_enter Tryz.func57, Tryz.ntmps57
  go_wp2
  go_ret
  exact ⟨_, rfl, st.new _ _⟩

end Go.Proofs.YtlcngapphloafaaGreatDoor
end

/- Package verify: what holds between the steps. -/
section
open Go Go.RowKit
namespace Go.Proofs.YtlcngapphloafaaGreatDoor
attribute [local irreducible] Inv.wpInv Mix.wpUp

theorem lfOf_len {l : List Nat} (hok : decOk l) : (lfOf l).length = 64 := by
  unfold lfOf
  split
  · rename_i h1
    have := hok.2.2.1 h1
    simp
    omega
  · simp
theorem lfOf_lt {l : List Nat} (hb : ∀ x ∈ l, x < 256) : ∀ x ∈ lfOf l, x < 256 := by
  unfold lfOf
  intro x hx
  split at hx
  · exact hb x (List.mem_of_mem_drop (List.mem_of_mem_take hx))
  · rw [List.eq_of_mem_replicate hx]; decide
theorem bmOf_key {l : List Nat} (hok : decOk l) (hb : ∀ x ∈ l, x < 256) : Key (bmOf l) :=
  ⟨by unfold bmOf; have := hok.1; simp; omega, fun x hx => hb x (List.mem_of_mem_drop (List.mem_of_mem_take hx))⟩
theorem restOf_lt {l : List Nat} (hb : ∀ x ∈ l, x < 256) : ∀ x ∈ restOf l, x < 256 := fun x hx => hb x (List.mem_of_mem_drop hx)
theorem Decd.call {l : List Nat} {c : Int} {pc : Array Value} {w w' : World} (h : Decd l c pc w) (hb : Below w.heap.size w w') : Decd l c pc w' := by
  rcases h with ⟨h0, hok, s, hp, hr⟩ | h
  · exact .inl ⟨h0, hok, s, hp, hr.call hb⟩
  · exact .inr h

/-- The codes that the verifier returns. -/
def Known (c : Int) : Prop := c = 0 ∨ c = 2 ∨ c = 3 ∨ c = 4 ∨ c = 5 ∨ c = 6 ∨ c = 7 ∨ c = 12 ∨ c = 13
/-- How many digests have been computed ahead of step j, at most. -/
def upTo (j : Nat) : Int := if j ≤ 4 then 0 else if j = 5 then 1 else 259

/-- What is given to Verify. -/
structure VGiv (KK : List Int) (ra ka : Option Addr) (rc kc : Nat) (vs bs : Value) (rr kk lv lb : List Nat) (hb cb : Nat) (bits c : Int) (w : World) : Prop where
  hh : HasH hb cb bits c w
  hK : HasK KK w
  hB : 0 ≤ bits ∧ bits ≤ 256
  hc : -4611686018427387904 ≤ c ∧ c ≤ 1000
  hr : RdB w (.slice ra rr.length rc) rr
  hk : RdB w (.slice ka kk.length kc) kk
  hv : RdB w vs lv
  hbs : RdS w bs lb
  kb : ∀ x ∈ kk, x < 256
  vb : ∀ x ∈ lv, x < 256
  bb : ∀ x ∈ lb, x < 256
  rl : rr.length ≤ 1000000
  kl : kk.length ≤ 1000000
  vl : lv.length ≤ 1000000

section
variable {KK : List Int} {ra ka : Option Addr} {rc kc : Nat} {vs bs : Value} {rr kk lv lb : List Nat} {hb cb : Nat} {bits c : Int} {w : World}
/-- What holds ahead of step j. -/
def VI (ra ka : Option Addr) (rc kc : Nat) (vs bs : Value) (rr kk lb : List Nat) (hb cb : Nat) (c : Int) (w : World) (p : Bool) (g Kb : Nat) (j : Nat) (wr : World) : Prop :=
  ∃ c' pc, StH w cb c' [(g, stepFs, 136), (Kb, ckR (.pointer (some ⟨hb, 0, none⟩)) (.slice ra rr.length rc) (.slice ka kk.length kc) vs p bs pc, 131)] wr ∧ pc.size = 99 ∧ c ≤ c' ∧ c' ≤ c + upTo j ∧ (1 ≤ j → rr.length = 32) ∧ (2 ≤ j → kk.length = 32) ∧ (4 ≤ j → Decd lb 0 pc wr)
theorem VI.call {p : Bool} {g Kb j : Nat} {wr w2 : World} (h : VI ra ka rc kc vs bs rr kk lb hb cb c w p g Kb j wr) (hb' : Below wr.heap.size wr w2) : VI ra ka rc kc vs bs rr kk lb hb cb c w p g Kb j w2 := by
  obtain ⟨c', pc, st, h1, h2, h3, h4, h5, h6⟩ := h
  exact ⟨c', pc, St.call st hb', h1, h2, h3, h4, h5, fun hj => (h6 hj).call hb'⟩

/-- The claim holds. -/
def GoodV (KK : List Int) (bits : Int) (p : Bool) (rr kk lv lb : List Nat) : Prop :=
  rr.length = 32 ∧ kk.length = 32 ∧ lv.length ≤ 65535 ∧ decOk lb ∧ supF (kdOf lb) (dpOf lb) (lfOf lb) kk (dgV KK bits lv p) p = true ∧
    belF KK bits (endF (kdOf lb) (lfOf lb)) kk (expF (hashF KK bits [3]) (dpOf lb) (setB (bmOf lb)) (restOf lb)) (dpOf lb) (dpOf lb) = rr
/-- What a step answers. -/
def VAns (ra ka : Option Addr) (rc kc : Nat) (vs bs : Value) (rr kk lb : List Nat) (hb cb : Nat) (c : Int) (w : World) (p : Bool) (g Kb : Nat) (G : Prop) (j : Nat) (e : Ending) (w' : World) : Prop :=
  ∃ x c', e = .returned (.int .i64 x) ∧ Known x ∧ c ≤ c' ∧ c' ≤ c + 259 ∧ StH w cb c' [] w' ∧ (x = 0 → VI ra ka rc kc vs bs rr kk lb hb cb c w p g Kb (j + 1) w') ∧ (G → x = 0)

variable (V : VGiv KK ra ka rc kc vs bs rr kk lv lb hb cb bits c w) (p : Bool) (g Kb : Nat)
include V
theorem ans0 (wr : World) (h : VI ra ka rc kc vs bs rr kk lb hb cb c w p g Kb 0 wr) : Calls Tryz.prog 94 #[.pointer (some ⟨Kb, 0, none⟩)] wr (VAns ra ka rc kc vs bs rr kk lb hb cb c w p g Kb (GoodV KK bits p rr kk lv lb) 0) := by
  obtain ⟨c', pc, st, h1, h2, h3, h4, h5, h6⟩ := h
  refine (Step1_calls _ _ _ _ p pc Kb ra rr.length rc (by have := V.rl; unfold maxLen; omega) wr (st.at (i := 1) rfl)).mono ?_
  rintro e w' ⟨rfl, hw⟩
  rw [hw]
  have hu : c' ≤ c + 259 := by unfold upTo at h3; simp at h3; omega
  refine ⟨_, c', rfl, ?_, h2, hu, St.few st (by simp) (by simp), fun hx => ⟨c', pc, st, h1, h2, by simpa [upTo] using h3, fun _ => ?_, fun hj => by omega, fun hj => by omega⟩, fun hG => if_pos hG.1⟩
  · split <;> simp [Known]
  · split at hx
    · assumption
    · cases hx
theorem ans1 (wr : World) (h : VI ra ka rc kc vs bs rr kk lb hb cb c w p g Kb 1 wr) : Calls Tryz.prog 96 #[.pointer (some ⟨Kb, 0, none⟩)] wr (VAns ra ka rc kc vs bs rr kk lb hb cb c w p g Kb (GoodV KK bits p rr kk lv lb) 1) := by
  obtain ⟨c', pc, st, h1, h2, h3, h4, h5, h6⟩ := h
  refine (Step2_calls _ _ _ _ p pc Kb ka kk.length kc (by have := V.kl; unfold maxLen; omega) wr (st.at (i := 1) rfl)).mono ?_
  rintro e w' ⟨rfl, hw⟩
  rw [hw]
  have hu : c' ≤ c + 259 := by unfold upTo at h3; simp at h3; omega
  refine ⟨_, c', rfl, ?_, h2, hu, St.few st (by simp) (by simp), fun hx => ⟨c', pc, st, h1, h2, by simpa [upTo] using h3, fun _ => h4 (by omega), fun _ => ?_, fun hj => by omega⟩, fun hG => if_pos hG.2.1⟩
  · split <;> simp [Known]
  · split at hx
    · assumption
    · cases hx
theorem ans2 (wr : World) (h : VI ra ka rc kc vs bs rr kk lb hb cb c w p g Kb 2 wr) : Calls Tryz.prog 97 #[.pointer (some ⟨Kb, 0, none⟩)] wr (VAns ra ka rc kc vs bs rr kk lb hb cb c w p g Kb (GoodV KK bits p rr kk lv lb) 2) := by
  obtain ⟨c', pc, st, h1, h2, h3, h4, h5, h6⟩ := h
  obtain ⟨va, vc, rfl, _⟩ := V.hv.open
  refine (Step3_calls _ _ _ _ p pc Kb va lv.length vc (by have := V.vl; unfold maxLen; omega) wr (st.at (i := 1) rfl)).mono ?_
  rintro e w' ⟨he, hw⟩
  rw [hw]
  have hu : c' ≤ c + 259 := by unfold upTo at h3; simp at h3; omega
  rcases he with rfl | ⟨rfl, hbig⟩
  · exact ⟨_, c', rfl, .inl rfl, h2, hu, St.few st (by simp) (by simp), fun hx => ⟨c', pc, st, h1, h2, by simpa [upTo] using h3, fun _ => h4 (by omega), fun _ => h5 (by omega), fun hj => by omega⟩, fun _ => rfl⟩
  · exact ⟨_, c', rfl, by simp [Known], h2, hu, St.few st (by simp) (by simp), fun hx => (by cases hx), fun hG => by have := hG.2.2.1; omega⟩
theorem ans3 (wr : World) (h : VI ra ka rc kc vs bs rr kk lb hb cb c w p g Kb 3 wr) : Calls Tryz.prog 98 #[.pointer (some ⟨Kb, 0, none⟩)] wr (VAns ra ka rc kc vs bs rr kk lb hb cb c w p g Kb (GoodV KK bits p rr kk lv lb) 3) := by
  obtain ⟨c', pc, st, h1, h2, h3, h4, h5, h6⟩ := h
  refine (Step4_calls _ _ _ _ _ p pc Kb lb V.bb h1 wr ⟨StH.rd st V.hh V.hbs.1, V.hbs.2⟩ (st.at (i := 1) rfl)).mono ?_
  rintro e w' ⟨x, pc', rfl, h7, h8, h9, h10⟩
  have hu : c' ≤ c + 259 := by unfold upTo at h3; simp at h3; omega
  have st' : StH w cb c' [(g, stepFs, 136), (Kb, ckR (.pointer (some ⟨hb, 0, none⟩)) (.slice ra rr.length rc) (.slice ka kk.length kc) vs p bs pc', 131)] w' := St.turn (i := 1) st rfl h10 h9 rfl
  refine ⟨x, c', rfl, ?_, h2, hu, St.few st' (by simp) (by simp), fun hx => ⟨c', pc', st', h7, h2, by simpa [upTo] using h3, fun _ => h4 (by omega), fun _ => h5 (by omega), fun _ => hx ▸ h8⟩, fun hG => ?_⟩
  · rcases h8 with ⟨h8, _⟩ | ⟨h8, _⟩
    · exact .inl h8
    · rcases h8 with h8 | h8 | h8 <;> subst h8 <;> simp [Known]
  · rcases h8 with ⟨h8, _⟩ | ⟨_, _, h8⟩
    · exact h8
    · exact absurd hG.2.2.2.1 h8
end

end Go.Proofs.YtlcngapphloafaaGreatDoor
end

/- Package mcodec: the payload of a kind, an item; slices of items. -/
section
open Go Go.RowKit
namespace Go.Proofs.YtlcngapphloafaaGreatDoor
attribute [local irreducible] Inv.wpInv Mix.wpUp

theorem inv_build {P : Program} {o : Oper} {a : Act} {I : World → Prop} {F : Value → Prop} (t : TypeId) (parts : Array (Nat × Operand)) (ho : o.op = .build t parts) (ps : List (Nat × Value)) (hp : (parts.map fun (i, x) => (i, a.eval x)).toList = ps) (cs : Array Value) (hf : P.built t ps = some cs)
    (hF : F (.agg cs)) : ∃ v, Inv.OpInv P I o a v ∧ F v := by
  refine ⟨_, fun w hw => ?_, hF⟩
  unfold execOp
  subst hp
  simp only [ho, Sem.run_bind, run_build w t _ cs hf, Result.andThen_ok, Sem.run_pure]
  exact ⟨rfl, hw⟩
theorem addPlain2 (b off n : Nat) : (⟨b, off, none⟩ : Addr).add n = ⟨b, off + n, none⟩ := by unfold Addr.add; split <;> simp_all
def payF (k : Int) : Nat := if k = 1 then 64 else if k = 3 then 32 else 0

set_option maxHeartbeats 1000000 in
theorem payload_calls (k : Int) (w : World) : Calls Tryz.prog 33 #[.int .i64 k] w fun e w' => e = .returned (.int .i64 (payF k : Nat)) ∧ w' = w := by
  by_cases h1 : k = 1
  · subst h1
    go_enter Tryz.func33, Tryz.ntmps33
    go_wp2
    go_ret
    exact ⟨rfl, rfl⟩
  · by_cases h3 : k = 3
    · subst h3
      go_enter Tryz.func33, Tryz.ntmps33
      go_wp2
      go_ret
      exact ⟨rfl, rfl⟩
    · have e : payF k = 0 := by unfold payF; rw [if_neg h1, if_neg h3]
      rw [e]
      go_enter Tryz.func33, Tryz.ntmps33
      go_wp2
      go_ret
      exact ⟨rfl, rfl⟩

/-- The cells of an item: its kind, and the bytes of its digest and of its leaf. -/
def itc (x : Int × List Nat) : List Value := .int .i64 x.1 :: bcells x.2
theorem itc_len (x : Int × List Nat) (h : x.2.length = 96) : (itc x).length = 97 := by simp [itc, bcells_len, h]
theorem itc_one (x : Int × List Nat) : ∀ u ∈ (itc x).toArray.toList, u.oneCell' = true := by
  intro u hu
  rcases List.mem_cons.1 (show u ∈ itc x from hu) with rfl | hu
  · rfl
  · rw [← kv_toList] at hu
    exact kv_one _ _ hu
def zero96 : List Nat := List.replicate 96 0
theorem zeroItem : (Tryz.prog.info? 93).bind (·.zero) = some (.agg (itc (0, zero96)).toArray) := by kernel_rfl
theorem sizeItem : (Tryz.prog.info? 93).map (·.size) = some 97 := by kernel_rfl
theorem aggItem : ∃ d, Tryz.prog.underlying 93 = some d ∧ aggB d = true := by
  have h : (Tryz.prog.underlying 93).map aggB = some true := by kernel_rfl
  cases hq : Tryz.prog.underlying 93 with
  | none => rw [hq] at h; cases h
  | some d => rw [hq] at h; exact ⟨d, rfl, Option.some.inj h⟩
theorem sliceItem : Tryz.prog.underlying 46 = some (.slice 93) := by kernel_rfl
theorem shapeItem : shapeOf Tryz.prog 93 = some (97, [(0, 1), (1, 32), (33, 64)]) := by kernel_rfl
theorem builtItem (k : Int) : Tryz.prog.built 93 [(0, .int .i64 k)] = some (itc (k, zero96)).toArray := by kernel_rfl


theorem put_digest (k : Int) (l : List Nat) (h : l.length = 32) : putAt (itc (k, zero96)).toArray 1 (.agg (kv l)) = (itc (k, l ++ List.replicate 64 0)).toArray := by
  have e := putAt_mid [.int .i64 k] (bcells (List.replicate 32 0)) (bcells (List.replicate 64 0)) (.agg (kv l)) 1 rfl (by show _ = (kv l).size; rw [bcells_len, kv_size, h]; rfl)
  rw [show (itc (k, zero96)) = [Value.int .i64 k] ++ (bcells (List.replicate 32 0) ++ bcells (List.replicate 64 0)) by rfl, e]
  show ([Value.int .i64 k] ++ ((kv l).toList ++ bcells (List.replicate 64 0))).toArray = _
  rw [kv_toList]
  unfold itc
  rw [bcells_app]
  rfl
theorem put_leaf (k : Int) (l : List Nat) (h : l.length = 64) : putAt (itc (k, zero96)).toArray 33 (.agg (kv l)) = (itc (k, List.replicate 32 0 ++ l)).toArray := by
  have e := putAt_mid (.int .i64 k :: bcells (List.replicate 32 0)) (bcells (List.replicate 64 0)) [] (.agg (kv l)) 33 rfl (by show _ = (kv l).size; rw [bcells_len, kv_size, h]; rfl)
  rw [show (itc (k, zero96)) = (Value.int .i64 k :: bcells (List.replicate 32 0)) ++ (bcells (List.replicate 64 0) ++ []) by rfl, e]
  show ((Value.int .i64 k :: bcells (List.replicate 32 0)) ++ ((kv l).toList ++ [])).toArray = _
  rw [kv_toList]
  unfold itc
  rw [bcells_app]
  simp
theorem itc_size (x : Int × List Nat) (h : x.2.length = 96) : (itc x).toArray.size = 97 := by simp [itc_len x h]
theorem sizeItemOf (x : Int × List Nat) (h : x.2.length = 96) : (Tryz.prog.info? 93).map (·.size) = some (itc x).toArray.size := by rw [itc_size x h]; exact sizeItem

def ItPost (k : Int) (w : World) (e : Ending) (w' : World) : Prop := ∃ l, l.length = 96 ∧ e = .returned (.agg (itc (k, l)).toArray) ∧ Below w.heap.size w w'

set_option maxRecDepth 20000 in
set_option maxHeartbeats 1000000 in
theorem item_none (k : Int) (v : Value) (w : World) (h1 : k ≠ 1) (h3 : k ≠ 3) : Calls Tryz.prog 34 #[.int .i64 k, v] w (ItPost k w) := by
  have st := St.init w
  have hz := zeroItem
  have HS := Lib.hid (fun x h => sizeItemOf x h)
  obtain ⟨d, hd, hagg⟩ := aggItem
  have HR := Lib.hid (fun (e : Ending) (w' : World) (l : List Nat) (hl : l.length = 96) (h1 : e = .returned (.agg (itc (k, l)).toArray)) (h2 : Below w.heap.size w w') => (show ItPost k w e w' from ⟨l, hl, h1, h2⟩))
  go_enter Tryz.func34, Tryz.ntmps34
  go_wp2_with (first
    | (refine wpList_newA st rfl 93 rfl _ hz ?_; intro b4 w1 st1; clear st)
    | (refine wpList_build rfl 93 _ rfl [(0, .int .i64 k)] ?_ _ (builtItem k) ?_; (· first | (simp [Act.eval]; done) | rfl))
    | (refine wpList_newA st1 rfl 93 rfl _ hz ?_; intro b5 w2 st2; clear st1)
    | (refine wpList_storeR st2 rfl 93 _ _ rfl 0 b5 rfl (.agg (itc (k, zero96)).toArray) rfl _ _ rfl (HS.out _ rfl) rfl (itc_one _) _ rfl ?_; intro w3 st3; clear st2)
    | (refine wpList_loadR rfl 93 _ rfl b5 rfl _ hd hagg _ _ (st3.at (i := 0) rfl) (HS.out _ rfl) ?_)
    | (refine wpList_storeR st3 rfl 93 _ _ rfl 1 b4 rfl (.agg (itc (k, zero96)).toArray) rfl _ _ rfl (HS.out _ rfl) rfl (itc_one _) _ rfl ?_; intro w4 st4; clear st3))
  exact ret_row rfl b4 _ _ _ rfl (st4.at (i := 1) rfl) hd hagg (HS.out _ rfl) rfl (HR.out _ _ _ rfl rfl st4.below)

set_option maxRecDepth 20000 in
set_option maxHeartbeats 1000000 in
theorem item_sib (v : Value) (l : List Nat) (w : World) (hv : RdS w v l) (hl : l.length = 32) : Calls Tryz.prog 34 #[.int .i64 3, v] w (ItPost 3 w) := by
  have hz := zeroItem
  have HS := Lib.hid (fun x h => sizeItemOf x h)
  obtain ⟨d, hd, hagg⟩ := aggItem
  have HL := Lib.hid hl
  have hll : (l ++ List.replicate 64 0).length = 96 := by rw [List.length_append, hl]; rfl
  have HLL := Lib.hid hll
  have HR := Lib.hid (fun (e : Ending) (w' : World) (l : List Nat) (hl : l.length = 96) (h1 : e = .returned (.agg (itc (3, l)).toArray)) (h2 : Below w.heap.size w w') => (show ItPost 3 w e w' from ⟨l, hl, h1, h2⟩))
  obtain ⟨a, c, rfl, Hc⟩ := hv.1.open
  obtain ⟨b, off, rfl, hc⟩ := Hc.out (by omega)
  have HC := Lib.hid hc
  have hat := arrayAtDig ⟨b, off, none⟩ c
  rw [hl]
  have st := St.init w
  clear hv hl hll Hc hc
  go_enter Tryz.func34, Tryz.ntmps34
  go_wp2_with (first
    | (refine wpList_newA st rfl 93 rfl _ hz ?_; intro b4 w1 st1; clear st)
    | (refine wpList_build rfl 93 _ rfl [(0, .int .i64 3)] ?_ _ (builtItem 3) ?_; (· first | (simp [Act.eval]; done) | rfl))
    | (refine wpList_newA st1 rfl 93 rfl _ hz ?_; intro b5 w2 st2; clear st1)
    | (refine wpList_storeR st2 rfl 93 _ _ rfl 0 b5 rfl (.agg (itc (3, zero96)).toArray) rfl _ _ rfl (HS.out _ rfl) rfl (itc_one _) _ rfl ?_; intro w3 st3; clear st2)
    | (refine wpList_loadB rfl 38 _ rfl b off 32 rfl aggDigE sizeDig0 l (Nat.le_of_eq HL.out.symm) (HC.out _ st3.below) ?_; rw [List.take_of_length_le (Nat.le_of_eq HL.out)])
    | (refine wpList_storeP st3 rfl 38 _ _ rfl 0 b5 1 rfl (.agg (kv l)) rfl _ _ rfl (sizeDg HL.out) (by show 1 + (kv l).size ≤ _; rw [kv_size, HL.out]; decide) (kv_one _) _ (put_digest 3 l HL.out) _ rfl ?_; intro w4 st4 _; clear st3)
    | (refine wpList_loadR rfl 93 _ rfl b5 rfl _ hd hagg _ _ (st4.at (i := 0) rfl) (HS.out _ HLL.out) ?_)
    | (refine wpList_storeR st4 rfl 93 _ _ rfl 1 b4 rfl (.agg (itc (3, l ++ List.replicate 64 0)).toArray) rfl _ _ rfl (HS.out _ HLL.out) (by show (itc (3, l ++ List.replicate 64 0)).toArray.size = _; rw [itc_size _ HLL.out]; rfl) (itc_one _) _ rfl ?_; intro w5 st5; clear st4))
  exact ret_row rfl b4 _ _ _ rfl (st5.at (i := 1) rfl) hd hagg (HS.out _ HLL.out) rfl (HR.out _ _ _ HLL.out rfl st5.below)

set_option maxRecDepth 20000 in
set_option maxHeartbeats 1000000 in
theorem item_full (v : Value) (l : List Nat) (w : World) (hv : RdS w v l) (hl : l.length = 64) : Calls Tryz.prog 34 #[.int .i64 1, v] w (ItPost 1 w) := by
  have hz := zeroItem
  have HS := Lib.hid (fun x h => sizeItemOf x h)
  obtain ⟨d, hd, hagg⟩ := aggItem
  have HL := Lib.hid hl
  have hll : (List.replicate 32 0 ++ l).length = 96 := by rw [List.length_append, hl]; rfl
  have HLL := Lib.hid hll
  have HR := Lib.hid (fun (e : Ending) (w' : World) (l : List Nat) (hl : l.length = 96) (h1 : e = .returned (.agg (itc (1, l)).toArray)) (h2 : Below w.heap.size w w') => (show ItPost 1 w e w' from ⟨l, hl, h1, h2⟩))
  obtain ⟨a, c, rfl, hcap⟩ := hv.2
  obtain ⟨a', c', he, Hc⟩ := hv.1.open
  obtain ⟨rfl, rfl⟩ : a = a' ∧ c = c' := by injection he with h1 h2 h3; exact ⟨h1, h3⟩
  obtain ⟨b, off, rfl, hc⟩ := Hc.out (by omega)
  have HC1 : Hid (∀ wx, Below w.heap.size w wx → ∀ k, k < (l.take 32).length → wx.cell? ⟨b, off + k, none⟩ = some (.int .u8 ((l.take 32).getD k 0 : Nat))) := fun wx hb k hk => by
    have hk' : k < 32 := by have := hk; simp at this; omega
    rw [hc wx hb k (by omega)]
    simp [List.getD_eq_getElem?_getD, hk']
  have HC2 : Hid (∀ wx, Below w.heap.size w wx → ∀ k, k < (l.drop 32).length → wx.cell? ⟨b, off + 32 + k, none⟩ = some (.int .u8 ((l.drop 32).getD k 0 : Nat))) := fun wx hb k hk => by
    have hk' : k < 32 := by have := hk; simp at this; omega
    rw [show off + 32 + k = off + (32 + k) by omega, hc wx hb (32 + k) (by omega)]
    simp [List.getD_eq_getElem?_getD, List.getElem?_drop]
  have H1 : Hid ((l.take 32).length = 32) := by unfold Hid; simp; omega
  have H2 : Hid ((l.drop 32).length = 32) := by unfold Hid; simp; omega
  have hB : Hid (Tryz.prog.built 40 (partsAt 0 [.agg (kv (l.take 32)), .agg (kv (l.drop 32))]) = some (kv l)) := by
    have := builtLeaf (l.take 32) (l.drop 32) H1.out H2.out
    rwa [List.take_append_drop] at this
  have hat := arrayAtKey ⟨b, off, none⟩ c
  have hat2 := arrayAtDig ⟨b, off + 32, none⟩ (c - 32)
  have hs1 : ∀ wx, (Instr.slice 22 (.slice (some ⟨b, off, none⟩) 64 c) none (some (.int .i64 32)) none).run Tryz.prog wx = .ok (.slice (some ⟨b, off, none⟩) 32 c) wx := fun wx => run_slice_toN sliceU8 sizeU8 ⟨b, off, none⟩ 64 c .i64 32 (by omega) rfl wx
  have hs2 : ∀ wx, (Instr.slice 22 (.slice (some ⟨b, off, none⟩) 64 c) (some (.int .i64 32)) none none).run Tryz.prog wx = .ok (.slice (some ⟨b, off + 32, none⟩) 32 (c - 32)) wx := fun wx => by
    have h := run_slice_fromN sliceU8 sizeU8 (some ⟨b, off, none⟩) 64 c .i64 32 (by omega) (by omega) wx
    refine h.trans ?_
    simp [addPlain2]
  rw [hl]
  have st := St.init w
  clear hv hl hll Hc hc he hcap
  go_enter Tryz.func34, Tryz.ntmps34
  go_wp2_with (first
    | (refine wpList_newA st rfl 93 rfl _ hz ?_; intro b4 w1 st1; clear st)
    | (refine wpList_build rfl 93 _ rfl [(0, .int .i64 1)] ?_ _ (builtItem 1) ?_; (· first | (simp [Act.eval]; done) | rfl))
    | (refine wpList_newA st1 rfl 93 rfl _ hz ?_; intro b5 w2 st2; clear st1)
    | (refine wpList_storeR st2 rfl 93 _ _ rfl 0 b5 rfl (.agg (itc (1, zero96)).toArray) rfl _ _ rfl (HS.out _ rfl) rfl (itc_one _) _ rfl ?_; intro w3 st3; clear st2))
  refine region_inv 10 st3 mixed (by kernel_rfl) ?_
  intro I hI hI'
  simp only [List.take_succ_cons, List.take_zero, List.drop_succ_cons, List.drop_zero]
  iterate 3
    (refine Inv.wpInv_step (fun K hK => ?_); go_simp; apply inv_run; · (intro wx hw; go_simp; (try go_ints); (try go_simp); (try (rw [if_pos (by omega)])); (try go_simp); (first | done | rfl))
     refine hK _ ?_; clear hK K)
  (refine Inv.wpInv_step (fun K hK => ?_); go_simp; refine inv_loadB 37 _ rfl b off 32 rfl aggKeyE sizeKey0 (l.take 32) (Nat.le_of_eq H1.out.symm) (fun wx hw => HC1.out _ (hI wx hw).below) ?_; rw [List.take_of_length_le (Nat.le_of_eq H1.out)]
   refine hK _ ?_; clear hK K)
  iterate 3
    (refine Inv.wpInv_step (fun K hK => ?_); go_simp; apply inv_run; · (intro wx hw; go_simp; (try go_ints); (try go_simp); (try (rw [if_pos (by omega)])); (try go_simp); (first | done | rfl))
     refine hK _ ?_; clear hK K)
  (refine Inv.wpInv_step (fun K hK => ?_); go_simp; refine inv_loadB 38 _ rfl b (off + 32) 32 rfl aggDigE sizeDig0 (l.drop 32) (Nat.le_of_eq H2.out.symm) (fun wx hw => HC2.out _ (hI wx hw).below) ?_; rw [List.take_of_length_le (Nat.le_of_eq H2.out)]
   refine hK _ ?_; clear hK K)
  (refine Inv.wpInv_step (fun K hK => ?_); go_simp; refine inv_build 40 _ rfl (partsAt 0 [.agg (kv (l.take 32)), .agg (kv (l.drop 32))]) (by first | (simp [Act.eval, partsAt]; done) | rfl) _ hB.out ?_
   refine hK _ ?_; clear hK K)
  iterate 1
    (refine Inv.wpInv_step (fun K hK => ?_); go_simp; apply inv_run; · (intro wx hw; go_simp; (try go_ints); (try go_simp); (try (rw [if_pos (by omega)])); (try go_simp); (first | done | rfl))
     refine hK _ ?_; clear hK K)
  clear hI hI'
  refine Inv.wpInv_nil ?_
  intro w4 st4
  clear st3
  go_wp2_with (first
    | (refine wpList_storeP st4 rfl 40 _ _ rfl 0 b5 33 rfl (.agg (kv l)) rfl _ _ rfl (sizeLeafOf HL.out) (by show 33 + (kv l).size ≤ _; rw [kv_size, HL.out]; decide) (kv_one _) _ (put_leaf 1 l HL.out) _ rfl ?_; intro w5 st5 _; clear st4)
    | (refine wpList_loadR rfl 93 _ rfl b5 rfl _ hd hagg _ _ (st5.at (i := 0) rfl) (HS.out _ HLL.out) ?_)
    | (refine wpList_storeR st5 rfl 93 _ _ rfl 1 b4 rfl (.agg (itc (1, List.replicate 32 0 ++ l)).toArray) rfl _ _ rfl (HS.out _ HLL.out) (by show (itc (1, List.replicate 32 0 ++ l)).toArray.size = _; rw [itc_size _ HLL.out]; rfl) (itc_one _) _ rfl ?_; intro w6 st6; clear st5))
  exact ret_row rfl b4 _ _ _ rfl (st6.at (i := 1) rfl) hd hagg (HS.out _ HLL.out) rfl (HR.out _ _ _ HLL.out rfl st6.below)

end Go.Proofs.YtlcngapphloafaaGreatDoor
end
