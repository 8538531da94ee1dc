/- The walk of BitmapUnites. -/
import Derived.Test.YtdkkklhpfflpkaaBmOrder
open Go Go.RowKit
namespace Go.Proofs.Ytdkkklhpfflpkaa

section
variable {P : Program} {ops : Array Oper} {rest : List Oper} {o : Oper} {a : Act} {w w0 : World} {Q : Exit → Act → World → Prop} {B : Nat} {L : List (Nat × Array Value × TypeId)}
/-- An empty slice put together: a row of the call's own. -/
theorem wpList_buildSlice0 (st : St B w0 L w) (hgd : Region.wanted o (yielded ops a.tmps) = true) (t : TypeId) (ho : o.op = .buildSlice t 0 #[]) (e : TypeId) (ht : P.underlying t = some (.slice e)) (size : Nat) (hsize : (P.info? e).map (·.size) = some size)
    (h : ∀ v w1, St B w0 L w1 → w1.ownsRow B e size v 0 [] → wpList P ops Q rest (a.put o.dst v) w1) : wpList P ops Q (o :: rest) a w := by
  refine wpList_wanted hgd fun K hK => ?_
  cases hq : P.info? e with
  | none => simp [hq] at hsize
  | some i =>
    have hf : Instr.fill (fun j => some (j * i.size, i.size)) (Array.map (fun x => (#[] : Array Value)[x % (#[] : Array Value).size]!) (Array.range 0)) [] = some #[] := by simp [Instr.fill]
    have hrun : (Instr.buildSlice t 0 #[]).run P w = .ok (.slice (some ⟨w.heap.size, 0, none⟩) 0 0) (w.alloc (.cells #[] e)) := by
      simp only [Instr.buildSlice, Sem.run_bind, run_underlying ht, Result.andThen_ok, sizeOf, typeInfo, run_program, hq, Sem.run_pure, Nat.zero_mul, show ¬ (0 > 2 ^ 24) by decide, if_false, if_true, hf, newRow, run_newObj]
      rfl
    unfold Oper.wp execOp
    simp only [ho, Array.map_empty, Sem.run_bind, hrun, Result.andThen_ok, Sem.run_pure, Oper.upon]
    exact hK _ _ (h _ _ (st.new #[] e).drop (World.ownsRow_made w #[] 0 st.size (by decide) (by simp)))

theorem run_append_empty (w : World) (t ty e : TypeId) (ht : P.underlying t = some (.slice e)) (i : TypeInfo) (hi : P.info? e = some i) (base : Option Addr) (sLen sCap : Nat) (hle : sLen ≤ sCap) (a' : Option Addr) (c' : Nat) :
    (Builtin.append_ #[t, t] ty #[.slice base sLen sCap, .slice a' 0 c']).run P w = .ok (.slice base sLen sCap) w := by
  cases base <;> cases a' <;> simp [Builtin.append_, run_underlying ht, sizeOf, typeInfo, hi, hle, Builtin.lenOf, Builtin.firstCells, loadCells, loadCellsFrom, storeCells]

/-- append of a slice that is read. -/
theorem wpList_appendRd {base : Nat} (st : St B w0 L w) (hL : ∀ p ∈ L, p.1 < base) (hB : B ≤ base) (hgd : o.guard = none) (s x : Operand) (t : TypeId)
    (ho : o.op = .call { callee := .builtin .append, args := #[s, x], argTypes := #[t, t] }) (e : TypeId) (z : Value) (bytes : Nat) (ht : P.underlying t = some (.slice e))
    (hz : (P.info? e).bind (·.zero) = some z) (hsize : (P.info? e).map (·.size) = some 1) (hby : (P.info? e).map (·.bytes) = some bytes) (hzs : z.cells.size = 1)
    (v : Value) (n : Nat) (xs : List Value) (hs : a.eval s = v) (hown : w.ownsRow base e 1 v n xs)
    (vx : Value) (l : List Int) (hx : a.eval x = vx) (hrd : Rd w vx l)
    (h63 : n + l.length ≤ maxLen) (hbytes : (n + l.length) * bytes ≤ 140737488355328) (hbase : base ≤ w.heap.size)
    (h : ∀ v' w1, St B w0 L w1 → w1.ownsRow base e 1 v' (n + l.length) (xs ++ icells l) → base ≤ w1.heap.size → wpList P ops Q rest (a.put o.dst v') w1) : wpList P ops Q (o :: rest) a w := by
  cases hq : P.info? e with
  | none => simp [hq] at hz
  | some i =>
    rcases hrd.2 with ⟨rfl, ad, c, rfl⟩ | ⟨b, off, c, rfl, hc⟩
    · obtain ⟨bs, cap, rfl, hle⟩ : ∃ bs cap, v = .slice bs n cap ∧ n ≤ cap := by
        rcases hown.2 with ⟨rfl, rfl⟩ | ⟨g, cap, cur, rfl, _, _, hle, _⟩
        · exact ⟨none, 0, rfl, Nat.le_refl _⟩
        · exact ⟨_, cap, rfl, hle⟩
      refine wpList_wanted (by unfold Region.wanted; rw [hgd]) fun K hK => ?_
      have hr := run_append_empty w t o.type e ht i hq bs n cap hle ad c
      unfold Oper.wp
      simp [execOp, ho, resolve, invoke, builtin, hs, hx, hr, Result.andThen, Oper.upon]
      exact hK _ _ (h _ w st (by simpa [icells] using hown) hbase)
    · refine wpList_append_own w hgd s x t ho base e i z 1 bytes ht hq (by simpa [hq] using hz) (by simpa [hq] using hsize) (by simpa [hq] using hby) hzs (by decide) v n xs hs hown ⟨b, off, none⟩ l.length c (icells l) hx (by rw [icells_len, Nat.mul_one]) (fun j u hu => ?_) (iv_one l) h63 hbytes hbase (fun v' w' g1 g2 g3 => ?_)
      · have hadd : (⟨b, off, none⟩ : Addr).add j = ⟨b, off + j, none⟩ := by unfold Addr.add; split <;> simp_all
        have hj : j < l.length := by
          have := (List.getElem?_eq_some_iff.1 hu).1
          rwa [icells_len] at this
        rw [hadd, hc j hj, ← hu]
        unfold icells
        simp [hj]
      · exact h v' w' (st.grown g2 (fun k hk => (hown.lt k hk).1) hL hB) g1 (Nat.le_trans hbase g2.size)
end

theorem has_app {l m : List Int} (i : Int) : (bitI (ofL zero32 (l ++ m)) i == 1) = ((bitI (ofL zero32 l) i == 1) || (bitI (ofL zero32 m) i == 1)) := by
  by_cases h : 0 ≤ i ∧ i < 256
  · rw [bitI_lt h, bitI_lt h, bitI_lt h, ofL_bit _ (by omega) _ _ key_zero, ofL_bit _ (by omega) _ _ key_zero, ofL_bit _ (by omega) _ _ key_zero, zero_bit]
    rw [show ((i.toNat : Nat) : Int) = i by omega]
    by_cases h1 : i ∈ l <;> by_cases h2 : i ∈ m <;> simp [h1, h2]
  · rw [bitI_out h, bitI_out h, bitI_out h]; rfl

theorem last_app (l m : List Int) : lastI (ofL zero32 (l ++ m)) = if lastI (ofL zero32 l) < lastI (ofL zero32 m) then lastI (ofL zero32 m) else lastI (ofL zero32 l) := by
  have h1 := lastI_is (ofL zero32 l)
  have h2 := lastI_is (ofL zero32 m)
  generalize lastI (ofL zero32 l) = X at *
  generalize lastI (ofL zero32 m) = Y at *
  have hb : ∀ j : Nat, j < 256 → (bitN (ofL zero32 (l ++ m)) j = 1 ↔ bitN (ofL zero32 l) j = 1 ∨ bitN (ofL zero32 m) j = 1) := fun j hj => by
    rw [ofL_bit j hj _ _ key_zero, ofL_bit j hj _ _ key_zero, ofL_bit j hj _ _ key_zero, zero_bit]
    by_cases h1 : (j : Int) ∈ l <;> by_cases h2 : (j : Int) ∈ m <;> simp [h1, h2]
  have hz : ∀ j : Nat, j < 256 → bitN (ofL zero32 l) j = 0 → bitN (ofL zero32 m) j = 0 → bitN (ofL zero32 (l ++ m)) j = 0 := fun j hj h3 h4 => by
    have := bitN_lt (ofL zero32 (l ++ m)) j
    have := hb j hj
    omega
  have x1 := h1.lo; have x2 := h1.hi; have y1 := h2.lo; have y2 := h2.hi
  refine lastI_unique ?_
  split
  · exact ⟨by omega, by omega, fun h => (hb _ (by omega)).2 (.inr (h2.bit h)), fun j h3 h4 => hz j h4 (h1.none j (by omega) h4) (h2.none j h3 h4)⟩
  · exact ⟨by omega, by omega, fun h => (hb _ (by omega)).2 (.inl (h1.bit h)), fun j h3 h4 => hz j h4 (h1.none j h3 h4) (h2.none j (by omega) h4)⟩

theorem last_max (l m : List Int) : lastI (ofL zero32 (l ++ m)) = max (lastI (ofL zero32 l)) (lastI (ofL zero32 m)) := by
  rw [last_app]
  split <;> omega

set_option maxHeartbeats 4000000 in
theorem BitmapUnites_rd (l m : List Int) (v u : Value) (i : Int) (w : World) (hv : Rd w v l) (hu : Rd w u m) :
    Calls Try.prog 13 #[v, u, .int .i64 i] w fun e w' => e = .returned (.bool true) ∧ Below w.heap.size w w' := by
  have hml := hv.1
  have hmm := hu.1
  unfold maxLen at hml hmm
  obtain ⟨a, cap, rfl, _⟩ := hv.open
  obtain ⟨c, dap, rfl, _⟩ := hu.open
  have Hv := Lib.hid hv
  have Hu := Lib.hid hu
  clear hv hu
  have HA := alive14H
  have st := St.init w
  by_cases h300 : (300 : Int) < (l.length : Int) ∨ (300 : Int) < (m.length : Int)
  · rcases (by omega : (300 : Int) < (l.length : Int) ∨ ((l.length : Int) ≤ 300 ∧ (300 : Int) < (m.length : Int))) with h | ⟨h, h'⟩
    all_goals
      clear h300
      go_enter Try.func13, Try.ntmps13
      go_wp2_with (first | (go_at_call 27; refine (HA.out _).mono ?_; rintro e wn ⟨rfl, hbel⟩; have stn := St.call (by assumption) hbel; clear hbel))
      go_ret
      exact ⟨rfl, stn.below⟩
  have hl3 : (l.length : Int) ≤ 300 := by omega
  have hm3 : (m.length : Int) ≤ 300 := by omega
  have H1 : Hid (∀ wx : World, Below w.heap.size w wx → Calls Try.prog 28 #[.slice a l.length cap] wx fun e w' => e = .returned (.agg (kv (ofL zero32 l))) ∧ Below wx.heap.size wx w') := fun wx hb => Of_calls l _ wx (Hv.out.call hb)
  have H2 : Hid (∀ wx : World, Below w.heap.size w wx → Calls Try.prog 28 #[.slice c m.length dap] wx fun e w' => e = .returned (.agg (kv (ofL zero32 m))) ∧ Below wx.heap.size wx w') := fun wx hb => Of_calls m _ wx (Hu.out.call hb)
  have H3 : Hid (∀ (wx : World) (x : Value), Rd wx x (l ++ m) → Calls Try.prog 28 #[x] wx fun e w' => e = .returned (.agg (kv (ofL zero32 (l ++ m)))) ∧ Below wx.heap.size wx w') := fun wx x h => Of_calls _ _ wx h
  have k1 := has_app (l := l) (m := m) i
  have k2 := last_max l m
  have KO := Key.ofL (l ++ m) key_zero
  have Kl := Key.ofL l key_zero
  have Km := Key.ofL m key_zero
  have hz : Hid (zero32.length = 32) := key_zero.len
  have hlen : Hid ((ofL zero32 (l ++ m)).length = 32) := KO.len
  have j1 := HasT _ Kl i _ rfl
  have j2 := HasT _ Km i _ rfl
  have j3 := HasT _ KO i _ k1
  have q1 := Last_calls _ Kl
  have q2 := Last_calls _ Km
  have q3 := Last_calls _ KO
  rw [k2] at q3
  have J1 := Lib.hid j1
  have J2 := Lib.hid j2
  have J3 := Lib.hid j3
  have Q1 := Lib.hid q1
  have Q2 := Lib.hid q2
  have Q3 := Lib.hid q3
  have Hl : Hid (l.length ≤ 300) := by unfold Hid; omega
  have Hm : Hid (m.length ≤ 300) := by unfold Hid; omega
  have Happ : Hid (∀ (wx : World) (x : Value), wx.ownsRow w.heap.size 3 1 x (0 + l.length + m.length) ([] ++ icells l ++ icells m) → Rd wx x (l ++ m)) := fun wx x h => by
    rw [List.nil_append, ← icells_app] at h
    exact Rd.of_own (by rw [List.length_append, Nat.zero_add]) h (by have := Hl.out; have := Hm.out; rw [List.length_append]; unfold maxLen; omega)
  clear k1 k2 KO Kl Km j1 j2 j3 q1 q2 q3 h300
  generalize (bitI (ofL zero32 l) i == 1) = X at *
  generalize (bitI (ofL zero32 m) i == 1) = Y at *
  generalize lastI (ofL zero32 l) = M at *
  generalize lastI (ofL zero32 m) = N at *
  generalize ofL zero32 (l ++ m) = O at *
  generalize ofL zero32 l = U at *
  generalize ofL zero32 m = V at *
  cases X
  all_goals
    simp only [Bool.false_or, Bool.true_or] at J3
    go_enter Try.func13, Try.ntmps13
    go_wp2_with (first | (refine wpList_buildSlice0 st rfl 30 rfl 3 sliceInt 1 sizeInt ?_; intro v3 w3 st3 hown3; have Hown3 := Lib.hid hown3; clear st hown3) | (refine wpList_appendRd (base := w.heap.size) st3 (fun p hp => by simp at hp) (Nat.le_refl _) rfl _ _ 30 rfl 3 _ 8 sliceInt zeroInt sizeInt bytesInt rfl _ _ _ rfl Hown3.out _ l rfl (Hv.out.call st3.below) (by have := Hl.out; unfold maxLen; omega) (by have := Hl.out; omega) st3.size ?_; intro v4 w4 st4 hown4 _; have Hown4 := Lib.hid hown4; clear st3 Hown3 hown4) | (refine wpList_appendRd (base := w.heap.size) st4 (fun p hp => by simp at hp) (Nat.le_refl _) rfl _ _ 30 rfl 3 _ 8 sliceInt zeroInt sizeInt bytesInt rfl _ _ _ rfl Hown4.out _ m rfl (Hu.out.call st4.below) (by have := Hl.out; have := Hm.out; unfold maxLen; omega) (by have := Hl.out; have := Hm.out; omega) st4.size ?_; intro v5 w5 st5 hown5 _; have Hown5 := Lib.hid (Happ.out _ _ hown5); clear st4 Hown4 hown5) | (go_at_call 28; with_reducible refine (H3.out _ _ Hown5.out).mono ?_; rintro e wn ⟨rfl, hbel⟩; have st6 := st5.call hbel; clear hbel st5 Hown5) | (refine wpList_newA st6 rfl 34 rfl _ zeroBm ?_; intro b7 w7 st7; clear st6) | (refine wpList_storeR st7 rfl 34 _ _ rfl 0 b7 rfl (.agg (kv O)) rfl _ _ rfl (sizeBm hlen.out) (by show (kv O).size = _; rw [kv_size, hlen.out, kv_size, hz.out]) (kv_one _) [(b7, kv O, 34)] rfl ?_; intro w8 st8; clear st7) | (refine wpList_loadR rfl 34 _ rfl b7 rfl _ aggBm rfl _ _ (St.at (by assumption) (i := 0) rfl) (sizeBm hlen.out) ?_) | (go_at_call 27; refine (HA.out _).mono ?_; rintro e wn ⟨rfl, hbel⟩; have stn := St.call (by assumption) hbel; clear hbel) | (go_at_call 28; with_reducible refine (H1.out _ (St.below (by assumption))).mono ?_; rintro e wn ⟨rfl, hbel⟩; have stn := St.call (by assumption) hbel; clear hbel) | (go_at_call 28; with_reducible refine (H2.out _ (St.below (by assumption))).mono ?_; rintro e wn ⟨rfl, hbel⟩; have stn := St.call (by assumption) hbel; clear hbel) | (go_at_call 30; with_reducible refine (J1.out _).mono ?_; rintro e wn ⟨rfl, hbel⟩; have stn := St.call (by assumption) hbel; clear hbel) | (go_at_call 30; with_reducible refine (J2.out _).mono ?_; rintro e wn ⟨rfl, hbel⟩; have stn := St.call (by assumption) hbel; clear hbel) | (go_at_call 30; with_reducible refine (J3.out _).mono ?_; rintro e wn ⟨rfl, hbel⟩; have stn := St.call (by assumption) hbel; clear hbel) | (go_at_call 36; with_reducible refine (Q1.out _).mono ?_; rintro e wn ⟨rfl, hbel⟩; have stn := St.call (by assumption) hbel; clear hbel) | (go_at_call 36; with_reducible refine (Q2.out _).mono ?_; rintro e wn ⟨rfl, hbel⟩; have stn := St.call (by assumption) hbel; clear hbel) | (go_at_call 36; with_reducible refine (Q3.out _).mono ?_; rintro e wn ⟨rfl, hbel⟩; have stn := St.call (by assumption) hbel; clear hbel))
    go_ret
    exact ⟨rfl, stn.below⟩

theorem BitmapUnites_walk (w : World) (a : Option Addr) (len cap : Nat) (zs : List Int) (h : IsRow w a len cap zs) (a' : Option Addr) (len' cap' : Nat) (zs' : List Int) (h' : IsRow w a' len' cap' zs') (i : Int) (_hi : (Lit.int .i64 i).wf = true) :
    Calls Try.prog 13 #[.slice a len cap, .slice a' len' cap', .int .i64 i] w fun e w' => e = .returned (.bool true) ∧ Below w.heap.size w w' := BitmapUnites_rd _ _ _ _ i w (Rd.of_row h) (Rd.of_row h')

end Go.Proofs.Ytdkkklhpfflpkaa
