/- Parts of the proof that are used by the claim: MRead, MParse. No condition is added here. -/
import Derived.Test.YtlcngapphloafaaGreatDoorPack22

/- Package multi: read. -/
section
open Go Go.RowKit
namespace Go.Proofs.YtlcngapphloafaaGreatDoor
attribute [local irreducible] Inv.wpInv Mix.wpUp

/-- A slice of items. -/
def RdI (w : World) (v : Value) (l : List (Int × List Nat)) : Prop :=
  (∀ x ∈ l, x.2.length = 96) ∧ l.length ≤ 1099511627776 ∧ ∃ a c, v = .slice a l.length c ∧ l.length ≤ c ∧
    (l ≠ [] → ∃ b off cur t, a = some ⟨b, off, none⟩ ∧ w.heap[b]? = some (.cells cur t (0, 0)) ∧ (cur.toList.drop off).take (97 * l.length) = l.flatMap itc)
theorem flat_len (l : List (Int × List Nat)) (h : ∀ x ∈ l, x.2.length = 96) : (l.flatMap itc).length = 97 * l.length := by
  induction l with
  | nil => rfl
  | cons x l ih =>
    rw [List.flatMap_cons, List.length_append, itc_len x (h x List.mem_cons_self), ih (fun y hy => h y (List.mem_cons_of_mem _ hy)), List.length_cons]
    omega
theorem RdI.call {w w' : World} {v : Value} {l : List (Int × List Nat)} (h : RdI w v l) (hb : Below w.heap.size w w') : RdI w' v l := by
  obtain ⟨h1, h2, a, c, h3, h4, h5⟩ := h
  refine ⟨h1, h2, a, c, h3, h4, fun hn => ?_⟩
  obtain ⟨b, off, cur, t, e1, e2, e3⟩ := h5 hn
  exact ⟨b, off, cur, t, e1, (hb.block b (heap_lt e2)).trans e2, e3⟩
theorem RdI.nil (w : World) : RdI w (.slice none 0 0) [] := ⟨fun _ h => (List.not_mem_nil h).elim, Nat.zero_le _, none, 0, rfl, Nat.le_refl _, fun h => absurd rfl h⟩
theorem RdI.own {w : World} {base : Nat} {e : TypeId} {v : Value} {l : List (Int × List Nat)} (hl : ∀ x ∈ l, x.2.length = 96) (hn : l.length ≤ 1099511627776) (h : w.ownsRow base e 97 v l.length (l.flatMap itc)) : RdI w v l := by
  refine ⟨hl, hn, ?_⟩
  rcases h.2 with ⟨rfl, h0⟩ | ⟨g, cap, cur, rfl, _, hg, hle, hcap, hsz, htake⟩
  · exact ⟨none, 0, by rw [h0], by omega, fun h => absurd (List.eq_nil_of_length_eq_zero h0) h⟩
  · exact ⟨_, cap, rfl, hle, fun _ => ⟨g, 0, cur, e, rfl, hg, by rw [List.drop_zero, Nat.mul_comm, htake]⟩⟩
/-- The first item, and the others. -/
theorem RdI.cons {w : World} {v : Value} {x : Int × List Nat} {l : List (Int × List Nat)} (h : RdI w v (x :: l)) :
    ∃ b off c cur t, v = .slice (some ⟨b, off, none⟩) (l.length + 1) c ∧ l.length + 1 ≤ c ∧ w.heap[b]? = some (.cells cur t (0, 0)) ∧ off + 97 ≤ cur.size ∧ cur.extract off (off + 97) = (itc x).toArray ∧ x.2.length = 96 ∧
      RdI w (.slice (if c = 1 then some ⟨b, off, none⟩ else some ⟨b, off + 97, none⟩) l.length (c - 1)) l := by
  obtain ⟨h1, h2, a, c, rfl, h4, h5⟩ := h
  obtain ⟨b, off, cur, t, rfl, e2, e3⟩ := h5 (List.cons_ne_nil _ _)
  have hx := h1 x List.mem_cons_self
  have hl : ∀ y ∈ l, y.2.length = 96 := fun y hy => h1 y (List.mem_cons_of_mem _ hy)
  rw [List.length_cons] at h2 h4
  rw [List.flatMap_cons, List.length_cons] at e3
  have hlen := congrArg List.length e3
  rw [List.length_append, itc_len x hx, flat_len l hl, List.length_take, List.length_drop] at hlen
  have hs : cur.toList.length = cur.size := Array.length_toList
  refine ⟨b, off, c, cur, t, rfl, h4, e2, by omega, ?_, hx, hl, by omega, _, c - 1, rfl, by omega, fun hn => ?_⟩
  · apply Array.ext'
    have e4 := congrArg (List.take 97) e3
    rw [List.take_take, Nat.min_eq_left (by omega), List.take_left' (itc_len x hx)] at e4
    simpa [Array.toList_extract, List.extract] using e4
  · have hne : ¬ c = 1 := by
      have : 0 < l.length := List.length_pos_iff.2 hn
      omega
    rw [if_neg hne]
    refine ⟨b, off + 97, cur, t, rfl, e2, ?_⟩
    have e4 := congrArg (List.drop 97) e3
    rw [List.drop_left' (itc_len x hx), List.drop_take, List.drop_drop] at e4
    rw [← e4]
    congr 1

theorem slice_item (b off n c : Nat) (hc : n + 1 ≤ c) (w : World) : (Instr.slice 46 (.slice (some ⟨b, off, none⟩) (n + 1) c) (some (.int .i64 1)) none none).run Tryz.prog w = .ok (.slice (if c = 1 then some ⟨b, off, none⟩ else some ⟨b, off + 97, none⟩) n (c - 1)) w := by
  by_cases h : c = 1
  · rw [if_pos h]
    subst h
    obtain rfl : n = 0 := by omega
    cases hq : Tryz.prog.info? 93 with
    | none => have := sizeItem; simp [hq] at this
    | some i => simp [Instr.slice, Instr.sliceBounds, Instr.sliceBound, asIntOf, run_underlying sliceItem, sizeOf, typeInfo, hq, Sem.run_bind, Result.andThen]
  · rw [if_neg h]
    have h1 := run_slice_fromN sliceItem sizeItem (some ⟨b, off, none⟩) (n + 1) c .i64 1 (by omega) h w
    refine h1.trans ?_
    simp [addPlain2]
/-- What read answers. -/
def ReadPost (w0 : World) (l : List (Int × List Nat)) (w : World) (e : Ending) (w' : World) : Prop :=
  Below w.heap.size w w' ∧ (e = .returned (.tuple #[.nilIface, .slice none 0 0]) ∨ ∃ T x v' m, e = .returned (.tuple #[.iface T x, v']) ∧ m ≤ l.length ∧ RdI w0 v' (l.drop m))

theorem read_empty (a : Option Addr) (c : Nat) (d : Int) (w0 w : World) : Calls Tryz.prog 113 #[.slice a 0 c, .int .i64 d] w (ReadPost w0 [] w) := by
  have HP := Lib.hid (show ReadPost w0 [] w (.returned (.tuple #[.nilIface, .slice none 0 0])) w from ⟨Below.refl _ _, .inl rfl⟩)
  go_enter Tryz.func113, Tryz.ntmps113
  go_wp2
  go_ret2
  exact HP.out

set_option maxRecDepth 20000 in
set_option maxHeartbeats 2000000 in
theorem read_one (x : Int × List Nat) (l : List (Int × List Nat)) (d : Int) (v : Value) (w0 w : World) (hb0 : Below w0.heap.size w0 w) (hv : RdI w0 v (x :: l)) (h2 : x.1 ≠ 2) : Calls Tryz.prog 113 #[v, .int .i64 d] w (ReadPost w0 (x :: l) w) := by
  obtain ⟨b, off, c, cur, t, rfl, hc, hrow0, hoff, hext, hxl, hr⟩ := hv.cons
  have hrow := (hb0.block b (heap_lt hrow0)).trans hrow0
  have HR := Lib.hid hr
  have HRow := Lib.hid hrow
  have Hoff := Lib.hid hoff
  have Hext := Lib.hid hext
  have HS := Lib.hid (sizeItemOf x hxl)
  have hsl := slice_item b off l.length c hc
  generalize (if c = 1 then some (⟨b, off, none⟩ : Addr) else some ⟨b, off + 97, none⟩) = a2 at *
  have HP := Lib.hid (fun e w' T y (hb : Below w.heap.size w w') (he : e = .returned (.tuple #[.iface T y, .slice a2 l.length (c - 1)])) => (show ReadPost w0 (x :: l) w e w' from ⟨hb, .inr ⟨T, y, _, 1, he, by simp, HR.out⟩⟩))
  have hlt := heap_lt hrow
  obtain ⟨dI, hdI, hagg⟩ := aggItem
  have hpos : (0 : Int) < (l.length : Nat) + 1 := by omega
  clear hv hc hrow0 hb0 hrow hoff hext hr
  have st := St.init w
  have hz := zeroItem
  have HXs : Hid ((itc x).toArray.size = (itc (0, zero96)).toArray.size) := by unfold Hid; rw [itc_size x hxl]; rfl
  have HX1 := Lib.hid (itc_one x)
  have hXz := itc_size x hxl
  clear hxl
  generalize hX : (itc x).toArray = X at *
  have hX0 : X[0]? = some (.int .i64 x.1) := by rw [← hX]; rfl
  go_enter Tryz.func113, Tryz.ntmps113
  go_upto_region 3 with (first | (fail "x"))
  refine Mix2.wp_region_mix (J := fun wx => ∃ L, St w.heap.size w L wx) 7 (St w.heap.size w []) mixed (by kernel_rfl) st.drew ?_
  intro F inv
  refine Mix2.good_batch (f := 2) F St.up (fun _ h => ⟨_, h⟩) [0, 1, 2, 3, 4] _ _ inv (by kernel_rfl) ?_
  clear inv
  iterate 2
    (refine Mix.wpUp_cons rfl (fun K hK => ?_); go_simp; apply up_run; · (intro wx hw; go_simp; (try go_ints); (try go_simp); (try (rw [if_pos (by omega)])); (try go_simp); (first | done | rfl))
     refine hK _ ?_; clear hK K)
  (refine Mix.wpUp_cons rfl (fun K hK => ?_); go_simp; refine up_loadP 93 _ rfl b off 97 rfl ⟨_, hdI, hagg⟩ _ _ (fun wx hw => (hw.choose_spec.below.block b hlt).trans HRow.out) sizeItem Hoff.out _ Hext.out ?_
   refine hK _ ?_; clear hK K)
  iterate 2
    (refine Mix.wpUp_cons rfl (fun K hK => ?_); go_simp; apply up_run; · (intro wx hw; go_simp; (try go_ints); (try go_simp); (try (rw [if_pos (by omega)])); (try go_simp); (first | done | rfl))
     refine hK _ ?_; clear hK K)
  refine Mix.wpUp_nil ?_
  intro inv
  refine Mix2.good_one (i := 5) (f := 1) (by kernel_rfl) inv (fun w2 st2 => ?_)
  clear inv
  refine mxOp_newA st2 rfl rfl 93 rfl _ hz (fun b6 w3 st3 => ?_)
  refine ⟨_, St.up, st3, fun _ h => ⟨_, h⟩, fun inv => ?_⟩
  clear st2 st3
  refine Mix2.good_one (i := 6) (f := 0) (by kernel_rfl) inv (fun w4 st4 => ?_)
  clear inv
  refine mxOp_storeR st4 rfl rfl 93 _ _ rfl 0 b6 rfl (.agg X) rfl _ _ rfl HS.out HXs.out HX1.out _ rfl (fun w5 st5 => ?_)
  refine ⟨_, St.up, st5, fun _ h => ⟨_, h⟩, fun inv => ?_⟩
  clear st4 st5 inv F
  refine ⟨by kernel_rfl, fun w6 st6 => ?_⟩
  simp only [List.drop_succ_cons, List.drop_zero]
  have hc0 := (st6.cell (i := 0) rfl 0).trans hX0
  clear st
  go_wp2_with (first
    | (refine wpList_loadR rfl 93 _ rfl b6 rfl _ hdI hagg _ _ (st6.at (i := 0) rfl) HS.out ?_))
  generalize Value.agg (Array.foldl (fun (cs : Array Value) (x : Value × Nat) => cs.setIfInBounds x.snd x.fst) Tryz.zeroCells267 X.zipIdx 0 X.size) = Z
  go_ret2
  exact HP.out _ _ _ _ st6.below rfl

set_option maxRecDepth 20000 in
set_option maxHeartbeats 2000000 in
theorem read_deep (x : Int × List Nat) (l : List (Int × List Nat)) (d : Int) (v : Value) (w0 w : World) (hb0 : Below w0.heap.size w0 w) (hv : RdI w0 v (x :: l)) (h2 : x.1 = 2) (h256 : 256 ≤ d) : Calls Tryz.prog 113 #[v, .int .i64 d] w (ReadPost w0 (x :: l) w) := by
  obtain ⟨b, off, c, cur, t, rfl, hc, hrow0, hoff, hext, hxl, hr⟩ := hv.cons
  have hrow := (hb0.block b (heap_lt hrow0)).trans hrow0
  have HRow := Lib.hid hrow
  have Hoff := Lib.hid hoff
  have Hext := Lib.hid hext
  have HS := Lib.hid (sizeItemOf x hxl)
  have hsl := slice_item b off l.length c hc
  generalize (if c = 1 then some (⟨b, off, none⟩ : Addr) else some ⟨b, off + 97, none⟩) = a2 at *
  have HP := Lib.hid (fun e w' (hb : Below w.heap.size w w') (he : e = .returned (.tuple #[.nilIface, .slice none 0 0])) => (show ReadPost w0 (x :: l) w e w' from ⟨hb, .inl he⟩))
  have hlt := heap_lt hrow
  obtain ⟨dI, hdI, hagg⟩ := aggItem
  have hpos : (0 : Int) < (l.length : Nat) + 1 := by omega
  clear hv hc hrow0 hb0 hrow hoff hext hr
  have st := St.init w
  have hz := zeroItem
  have HXs : Hid ((itc x).toArray.size = (itc (0, zero96)).toArray.size) := by unfold Hid; rw [itc_size x hxl]; rfl
  have HX1 := Lib.hid (itc_one x)
  clear hxl
  generalize hX : (itc x).toArray = X at *
  have hX0 : X[0]? = some (.int .i64 2) := by rw [← hX, ← h2]; rfl
  clear h2
  go_enter Tryz.func113, Tryz.ntmps113
  go_upto_region 3 with (first | (fail "x"))
  refine Mix2.wp_region_mix (J := fun wx => ∃ L, St w.heap.size w L wx) 7 (St w.heap.size w []) mixed (by kernel_rfl) st.drew ?_
  intro F inv
  refine Mix2.good_batch (f := 2) F St.up (fun _ h => ⟨_, h⟩) [0, 1, 2, 3, 4] _ _ inv (by kernel_rfl) ?_
  clear inv
  iterate 2
    (refine Mix.wpUp_cons rfl (fun K hK => ?_); go_simp; apply up_run; · (intro wx hw; go_simp; (try go_ints); (try go_simp); (try (rw [if_pos (by omega)])); (try go_simp); (first | done | rfl))
     refine hK _ ?_; clear hK K)
  (refine Mix.wpUp_cons rfl (fun K hK => ?_); go_simp; refine up_loadP 93 _ rfl b off 97 rfl ⟨_, hdI, hagg⟩ _ _ (fun wx hw => (hw.choose_spec.below.block b hlt).trans HRow.out) sizeItem Hoff.out _ Hext.out ?_
   refine hK _ ?_; clear hK K)
  iterate 2
    (refine Mix.wpUp_cons rfl (fun K hK => ?_); go_simp; apply up_run; · (intro wx hw; go_simp; (try go_ints); (try go_simp); (try (rw [if_pos (by omega)])); (try go_simp); (first | done | rfl))
     refine hK _ ?_; clear hK K)
  refine Mix.wpUp_nil ?_
  intro inv
  refine Mix2.good_one (i := 5) (f := 1) (by kernel_rfl) inv (fun w2 st2 => ?_)
  clear inv
  refine mxOp_newA st2 rfl rfl 93 rfl _ hz (fun b6 w3 st3 => ?_)
  refine ⟨_, St.up, st3, fun _ h => ⟨_, h⟩, fun inv => ?_⟩
  clear st2 st3
  refine Mix2.good_one (i := 6) (f := 0) (by kernel_rfl) inv (fun w4 st4 => ?_)
  clear inv
  refine mxOp_storeR st4 rfl rfl 93 _ _ rfl 0 b6 rfl (.agg X) rfl _ _ rfl HS.out HXs.out HX1.out _ rfl (fun w5 st5 => ?_)
  refine ⟨_, St.up, st5, fun _ h => ⟨_, h⟩, fun inv => ?_⟩
  clear st4 st5 inv F
  refine ⟨by kernel_rfl, fun w6 st6 => ?_⟩
  simp only [List.drop_succ_cons, List.drop_zero]
  have hc0 := (st6.cell (i := 0) rfl 0).trans hX0
  clear st
  go_wp2
  go_ret2
  exact HP.out _ _ st6.below rfl

theorem zeroPair : (Tryz.prog.info? 269).bind (·.zero) = some (.agg #[.nilIface, .nilIface]) := by kernel_rfl
theorem aggPair : Tryz.prog.underlying 269 = some (.array 2 156) := by kernel_rfl
theorem sizePair : (Tryz.prog.info? 269).map (·.size) = some 2 := by kernel_rfl
theorem sizeSub : (Tryz.prog.info? 156).map (·.size) = some 1 := by kernel_rfl
set_option maxRecDepth 20000 in
set_option maxHeartbeats 2000000 in
theorem read_pair (x : Int × List Nat) (l : List (Int × List Nat)) (d : Int) (v : Value) (w0 w : World) (hb0 : Below w0.heap.size w0 w) (hv : RdI w0 v (x :: l)) (h2 : x.1 = 2) (hd : 0 ≤ d ∧ d < 256)
    (IH : ∀ l' v' w', Below w0.heap.size w0 w' → RdI w0 v' l' → Calls Tryz.prog 113 #[v', .int .i64 (d + 1)] w' (ReadPost w0 l' w')) : Calls Tryz.prog 113 #[v, .int .i64 d] w (ReadPost w0 (x :: l) w) := by
  obtain ⟨b, off, c, cur, t, rfl, hc, hrow0, hoff, hext, hxl, hr⟩ := hv.cons
  have hrow := (hb0.block b (heap_lt hrow0)).trans hrow0
  have HRow := Lib.hid hrow
  have Hoff := Lib.hid hoff
  have Hext := Lib.hid hext
  have HS := Lib.hid (sizeItemOf x hxl)
  have hsl := slice_item b off l.length c hc
  generalize (if c = 1 then some (⟨b, off, none⟩ : Addr) else some ⟨b, off + 97, none⟩) = a2 at *
  have HP := Lib.hid (fun e w' (hb : Below w.heap.size w w') (he : e = .returned (.tuple #[.nilIface, .slice none 0 0])) => (show ReadPost w0 (x :: l) w e w' from ⟨hb, .inl he⟩))
  have HQ := Lib.hid (fun e w' T y v' m1 m2 (hb : Below w.heap.size w w') (he : e = .returned (.tuple #[.iface T y, v'])) (h1 : m1 ≤ l.length) (h2 : m2 ≤ (l.drop m1).length) (h : RdI w0 v' ((l.drop m1).drop m2)) => (show ReadPost w0 (x :: l) w e w' from ⟨hb, .inr ⟨T, y, v', m1 + m2 + 1, he, by rw [List.length_drop] at h2; rw [List.length_cons]; omega, by rw [List.drop_drop] at h; exact h⟩⟩))
  have HI := Lib.hid (fun l' v' w' (hb : Below w.heap.size w w') (h : RdI w0 v' l') => IH l' v' w' (hb0.trans (hb.mono hb0.size)) h)
  have HR := Lib.hid hr
  have hd0 := hd.1
  have hd1 := hd.2
  clear IH hd
  have hlt := heap_lt hrow
  obtain ⟨dI, hdI, hagg⟩ := aggItem
  have hpos : (0 : Int) < (l.length : Nat) + 1 := by omega
  clear hv hc hrow0 hb0 hrow hoff hext hr
  have st := St.init w
  have hz := zeroItem
  have HXs : Hid ((itc x).toArray.size = (itc (0, zero96)).toArray.size) := by unfold Hid; rw [itc_size x hxl]; rfl
  have HX1 := Lib.hid (itc_one x)
  clear hxl
  generalize hX : (itc x).toArray = X at *
  have hX0 : X[0]? = some (.int .i64 2) := by rw [← hX, ← h2]; rfl
  clear h2
  go_enter Tryz.func113, Tryz.ntmps113
  go_upto_region 3 with (first | (fail "x"))
  refine Mix2.wp_region_mix (J := fun wx => ∃ L, St w.heap.size w L wx) 7 (St w.heap.size w []) mixed (by kernel_rfl) st.drew ?_
  intro F inv
  refine Mix2.good_batch (f := 2) F St.up (fun _ h => ⟨_, h⟩) [0, 1, 2, 3, 4] _ _ inv (by kernel_rfl) ?_
  clear inv
  iterate 2
    (refine Mix.wpUp_cons rfl (fun K hK => ?_); go_simp; apply up_run; · (intro wx hw; go_simp; (try go_ints); (try go_simp); (try (rw [if_pos (by omega)])); (try go_simp); (first | done | rfl))
     refine hK _ ?_; clear hK K)
  (refine Mix.wpUp_cons rfl (fun K hK => ?_); go_simp; refine up_loadP 93 _ rfl b off 97 rfl ⟨_, hdI, hagg⟩ _ _ (fun wx hw => (hw.choose_spec.below.block b hlt).trans HRow.out) sizeItem Hoff.out _ Hext.out ?_
   refine hK _ ?_; clear hK K)
  iterate 2
    (refine Mix.wpUp_cons rfl (fun K hK => ?_); go_simp; apply up_run; · (intro wx hw; go_simp; (try go_ints); (try go_simp); (try (rw [if_pos (by omega)])); (try go_simp); (first | done | rfl))
     refine hK _ ?_; clear hK K)
  refine Mix.wpUp_nil ?_
  intro inv
  refine Mix2.good_one (i := 5) (f := 1) (by kernel_rfl) inv (fun w2 st2 => ?_)
  clear inv
  refine mxOp_newA st2 rfl rfl 93 rfl _ hz (fun b6 w3 st3 => ?_)
  refine ⟨_, St.up, st3, fun _ h => ⟨_, h⟩, fun inv => ?_⟩
  clear st2 st3
  refine Mix2.good_one (i := 6) (f := 0) (by kernel_rfl) inv (fun w4 st4 => ?_)
  clear inv
  refine mxOp_storeR st4 rfl rfl 93 _ _ rfl 0 b6 rfl (.agg X) rfl _ _ rfl HS.out HXs.out HX1.out _ rfl (fun w5 st5 => ?_)
  refine ⟨_, St.up, st5, fun _ h => ⟨_, h⟩, fun inv => ?_⟩
  clear st4 st5 inv F
  refine ⟨by kernel_rfl, fun w6 st6 => ?_⟩
  simp only [List.drop_succ_cons, List.drop_zero]
  have hc0 := (st6.cell (i := 0) rfl 0).trans hX0
  clear st
  go_wp2_with (first
    | (refine wpList_newA st6 rfl 269 rfl _ zeroPair ?_; intro b8 w7 st7; clear hc0 st6))
  refine wp_loop_rounds 3 ?_
  rw [rounds_succ]
  go_wp2_with (first
    | (go_at_call 113; refine (HI.out _ _ _ st7.below HR.out).mono ?_; rintro e w8 ⟨hb8, rfl | ⟨T1, y1, v1, m1, rfl, hm1, hr1⟩⟩ <;> (have st8 := st7.call hb8; clear st7 hb8))
    | (refine wpList_storeC st8 rfl 156 _ _ rfl 0 b8 0 rfl .nilIface rfl _ _ rfl sizeSub rfl (by decide) rfl _ rfl _ rfl ?_; intro w9 st9; clear st8; have hp0 := st9.cell (i := 0) rfl 0)
    | (refine wpList_storeC st8 rfl 156 _ _ rfl 0 b8 0 rfl (.iface T1 y1) rfl _ _ rfl sizeSub rfl (by decide) rfl _ rfl _ rfl ?_; intro w9 st9; clear st8; have hp0 := st9.cell (i := 0) rfl 0))
  · go_ret2
    exact HP.out _ _ st9.below rfl
  · rw [rounds_succ]
    have Hr1 := Lib.hid hr1
    have Hm1 := Lib.hid hm1
    clear hr1 hm1 hp0
    go_wp2_with (first
      | (go_at_call 113; refine (HI.out _ _ _ st9.below Hr1.out).mono ?_; rintro e w10 ⟨hb10, rfl | ⟨T2, y2, v2, m2, rfl, hm2, hr2⟩⟩ <;> (have st10 := st9.call hb10; clear st9 hb10))
      | (refine wpList_storeC st10 rfl 156 _ _ rfl 0 b8 1 rfl .nilIface rfl _ _ rfl sizeSub rfl (by simp) rfl _ rfl _ rfl ?_; intro w11 st11; clear st10; have hp1 := st11.cell (i := 0) rfl 1)
      | (refine wpList_storeC st10 rfl 156 _ _ rfl 0 b8 1 rfl (.iface T2 y2) rfl _ _ rfl sizeSub rfl (by simp) rfl _ rfl _ rfl ?_; intro w11 st11; clear st10; have hp1 := st11.cell (i := 0) rfl 1))
    · go_ret2
      exact HP.out _ _ st11.below rfl
    · rw [rounds_succ]
      have Hr2 := Lib.hid hr2
      have Hm2 := Lib.hid hm2
      clear hr2 hm2 hp1
      go_wp2_with (first
        | (refine wpList_loadR rfl 269 _ rfl b8 rfl _ aggPair rfl _ _ (st11.at (i := 0) rfl) sizePair ?_))
      go_ret2
      exact HQ.out _ _ _ _ _ _ _ st11.below rfl Hm1.out Hm2.out Hr2.out


theorem read_calls : ∀ (n : Nat) (l : List (Int × List Nat)) (d : Int) (v : Value) (w0 w : World), 0 ≤ d → 256 - d ≤ n → Below w0.heap.size w0 w → RdI w0 v l →
    Calls Tryz.prog 113 #[v, .int .i64 d] w (ReadPost w0 l w)
  | _, [], d, v, w0, w, _, _, _, hv => by
    obtain ⟨_, _, a, c, rfl, _⟩ := hv
    exact read_empty a c d w0 w
  | 0, x :: l, d, v, w0, w, h0, hn, hb, hv => by
    by_cases h2 : x.1 = 2
    · exact read_deep x l d v w0 w hb hv h2 (by omega)
    · exact read_one x l d v w0 w hb hv h2
  | n + 1, x :: l, d, v, w0, w, h0, hn, hb, hv => by
    by_cases h2 : x.1 = 2
    · by_cases h256 : 256 ≤ d
      · exact read_deep x l d v w0 w hb hv h2 h256
      · exact read_pair x l d v w0 w hb hv h2 ⟨h0, by omega⟩ fun l' v' w' hb' hv' => read_calls n l' (d + 1) v' w0 w' (by omega) (by omega) hb' hv'
    · exact read_one x l d v w0 w hb hv h2
/-- The item with a number. -/
theorem RdI.at {w : World} {v : Value} {l : List (Int × List Nat)} (h : RdI w v l) (hn : l ≠ []) : ∃ b off c cur t, v = .slice (some ⟨b, off, none⟩) l.length c ∧ w.heap[b]? = some (.cells cur t (0, 0)) ∧
    Hid (∀ k (hk : k < l.length), off + k * 97 + 97 ≤ cur.size ∧ cur.extract (off + k * 97) (off + k * 97 + 97) = (itc l[k]).toArray ∧ l[k].2.length = 96) := by
  obtain ⟨h1, h2, a, c, rfl, h4, h5⟩ := h
  obtain ⟨b, off, cur, t, rfl, e2, e3⟩ := h5 hn
  refine ⟨b, off, c, cur, t, rfl, e2, fun k hk => ?_⟩
  have hlen := congrArg List.length e3
  rw [flat_len l h1, List.length_take, List.length_drop] at hlen
  have hs : cur.toList.length = cur.size := Array.length_toList
  have hx := h1 l[k] (List.getElem_mem _)
  refine ⟨by omega, ?_, hx⟩
  have hsplit : l = l.take k ++ l[k] :: l.drop (k + 1) := by rw [← List.drop_eq_getElem_cons hk, List.take_append_drop]
  have hpre : ((l.take k).flatMap itc).length = 97 * k := by
    rw [flat_len _ (fun x hx => h1 x (List.mem_of_mem_take hx)), List.length_take, Nat.min_eq_left (by omega)]
  have e4 := congrArg (fun y => (y.drop (97 * k)).take 97) e3
  have e5 : l.flatMap itc = (l.take k).flatMap itc ++ (itc l[k] ++ (l.drop (k + 1)).flatMap itc) := by
    conv => lhs; rw [hsplit]
    rw [List.flatMap_append, List.flatMap_cons]
  rw [e5, List.drop_left' hpre, List.take_left' (itc_len _ hx), List.drop_take, List.drop_drop, List.take_take, Nat.min_eq_left (by omega)] at e4
  apply Array.ext'
  rw [show off + k * 97 = off + 97 * k by omega]
  simpa [Array.toList_extract, List.extract] using e4

end Go.Proofs.YtlcngapphloafaaGreatDoor
end

/- Package multi: parse and Check end for every multiproof. -/
section
open Go Go.RowKit
namespace Go.Proofs.YtlcngapphloafaaGreatDoor
attribute [local irreducible] Inv.wpInv Mix.wpUp

theorem builtDig0 : Tryz.prog.built 38 [] = some (kv zero32) := by kernel_rfl
theorem itc_digest (x : Int × List Nat) : (itc x).toArray.extract 1 33 = kv (x.2.take 32) := by
  rw [← bcells_kv]
  apply Array.ext'
  simp [itc, bcells, List.map_take]
theorem itc_leaf (x : Int × List Nat) (h : x.2.length = 96) : (itc x).toArray.extract 33 97 = kv (x.2.drop 32) := by
  rw [← bcells_kv]
  apply Array.ext'
  simp [itc, bcells, List.map_drop]
  rw [List.take_of_length_le (by simp; omega)]

section
variable {P : Program} {ops : Array Oper} {Q : Exit → Act → World → Prop} {rest : List Oper} {a : Act} {w : World}
/-- Marks of the goals at which a lemma is tried (with_reducible: nothing is unfolded in vain). -/
theorem at_load (t : TypeId) {x : Operand} {d : Option Tmp} {ty : TypeId} {pos : String} {af : Array Edge} {g : Option (Nat × Bool)} (h : wpList P ops Q ({ dst := d, op := .load t x, type := ty, pos := pos, after := af, guard := g } :: rest) a w) : wpList P ops Q ({ dst := d, op := .load t x, type := ty, pos := pos, after := af, guard := g } :: rest) a w := h
theorem at_alloc (t : TypeId) {d : Option Tmp} {ty : TypeId} {pos : String} {af : Array Edge} {g : Option (Nat × Bool)} (h : wpList P ops Q ({ dst := d, op := .alloc t, type := ty, pos := pos, after := af, guard := g } :: rest) a w) : wpList P ops Q ({ dst := d, op := .alloc t, type := ty, pos := pos, after := af, guard := g } :: rest) a w := h
theorem at_store (t : TypeId) {x y : Operand} {d : Option Tmp} {ty : TypeId} {pos : String} {af : Array Edge} {g : Option (Nat × Bool)} (h : wpList P ops Q ({ dst := d, op := .store t x y, type := ty, pos := pos, after := af, guard := g } :: rest) a w) : wpList P ops Q ({ dst := d, op := .store t x y, type := ty, pos := pos, after := af, guard := g } :: rest) a w := h
theorem at_buildSlice (t : TypeId) {n : Nat} {ps : Array (Nat × Operand)} {d : Option Tmp} {ty : TypeId} {pos : String} {af : Array Edge} {g : Option (Nat × Bool)} (h : wpList P ops Q ({ dst := d, op := .buildSlice t n ps, type := ty, pos := pos, after := af, guard := g } :: rest) a w) : wpList P ops Q ({ dst := d, op := .buildSlice t n ps, type := ty, pos := pos, after := af, guard := g } :: rest) a w := h
theorem at_build (t : TypeId) {ps : Array (Nat × Operand)} {d : Option Tmp} {ty : TypeId} {pos : String} {af : Array Edge} {g : Option (Nat × Bool)} (h : wpList P ops Q ({ dst := d, op := .build t ps, type := ty, pos := pos, after := af, guard := g } :: rest) a w) : wpList P ops Q ({ dst := d, op := .build t ps, type := ty, pos := pos, after := af, guard := g } :: rest) a w := h
end

/-- What parse answers: some subtree or none, and a code. -/
def ParsePost (w : World) (e : Ending) (w' : World) : Prop := Below w.heap.size w w' ∧ ∃ r c, e = .returned (.tuple #[r, .int .i64 c])

set_option maxRecDepth 20000 in
set_option maxHeartbeats 4000000 in
theorem parse_calls (l : List (Int × List Nat)) (v : Value) (w : World) (hv : RdI w v l) : Calls Tryz.prog 64 #[v] w (ParsePost w) := by
  have HP := Lib.hid (fun e w' r c (hb : Below w.heap.size w w') (he : e = .returned (.tuple #[r, .int .i64 c])) => (show ParsePost w e w' from ⟨hb, r, c, he⟩))
  have HV := Lib.hid hv
  obtain ⟨_, hln, a, c, rfl, _⟩ := hv
  have HR := Lib.hid (fun wx (hb : Below w.heap.size w wx) => read_calls 256 l 0 (.slice a l.length c) w wx (by omega) (by omega) hb HV.out)
  have st := St.init w
  go_enter Tryz.func64, Tryz.ntmps64
  go_upto_region 3 with (first | (fail "x"))
  go_loopw [4, 11] (fun cl i wr => ∃ (k : Nat) (B : Bool), k ≤ l.length ∧ cl = .bool B ∧ i = .int .i64 (k : Nat) ∧ St w.heap.size w [] wr) (fun _ i _ => ((l.length : Int) - intOf i).toNat)
  case atStart => exact ⟨0, true, Nat.zero_le _, rfl, rfl, st⟩
  case round =>
    obtain ⟨k, B, hk, rfl, rfl, st1⟩ := hrel
    clear st
    by_cases hlt : k < l.length
    · obtain ⟨b, off, c', cur, t, hva, hrow, Hat⟩ := HV.out.at (by intro h; rw [h] at hlt; exact absurd hlt (Nat.not_lt_zero _))
      obtain ⟨rfl, rfl⟩ : a = some ⟨b, off, none⟩ ∧ c = c' := by injection hva with h1 h2 h3; exact ⟨h1, h3⟩
      have hAt := Hat.out k hlt
      generalize l[k] = x at hAt
      obtain ⟨hle, hext, hxl⟩ := hAt
      have hrow' : wr.heap[b]? = some (.cells cur t (0, 0)) := (st1.below.block b (heap_lt hrow)).trans hrow
      have HRow := Lib.hid hrow'
      have Hle := Lib.hid hle
      have Hext := Lib.hid hext
      have hki : ((k : Nat) : Int) < (l.length : Nat) := by omega
      have hkn : (k : Int) < 1099511627776 := by omega
      have HS := Lib.hid (sizeItemOf x hxl)
      have HX1 := Lib.hid (itc_one x)
      have HXs : Hid ((itc x).toArray.size = (itc (0, zero96)).toArray.size) := by unfold Hid; rw [itc_size _ hxl]; rfl
      have HXz : Hid ((itc x).toArray.size = 97) := itc_size _ hxl
      have hX0 : (itc x).toArray[0]? = some (.int .i64 x.1) := rfl
      have HXd := Lib.hid (itc_digest x)
      have HXl := Lib.hid (itc_leaf x hxl)
      have hq1 := eqlDig (x.2.take 32) zero32 (by simp; omega) rfl
      have hq2 := eqlLeaf (x.2.drop 32) (List.replicate 64 0) (by simp; omega) zero64_eq
      have hg1 := guardDig
      have hg2 := guardLeaf
      have HN : Hid (∀ (B' : Bool) w', St w.heap.size w [] w' → ∃ (k' : Nat) (B'' : Bool), k' ≤ l.length ∧ Value.bool B' = .bool B'' ∧ Value.int .i64 ((k : Int) + 1) = .int .i64 (k' : Nat) ∧ St w.heap.size w [] w') := fun B' w' h => ⟨k + 1, B', hlt, rfl, rfl, h⟩
      obtain ⟨dI, hdI, hagg⟩ := aggItem
      have hz := zeroItem
      clear hva hrow hrow' hle hext hxl Hat HR HV hln
      generalize x.1 = kd at *
      generalize decide (x.2.take 32 = zero32) = q1 at *
      generalize decide (x.2.drop 32 = List.replicate 64 0) = q2 at *
      generalize kv (x.2.take 32) = dg at *
      generalize kv (x.2.drop 32) = lf at *
      generalize (itc x).toArray = X at *
      clear hlt hk
      have HBd := Lib.hid builtDig0
      have HBl := Lib.hid builtLeaf0
      generalize kv zero32 = z0 at *
      generalize kv (List.replicate 64 0) = z4 at *
      by_cases hk0 : kd < 0
      · go_wp2_with (first
          | ((with_reducible refine at_load 93 ?_); refine wpList_loadP rfl 93 _ rfl b (off + k * 97) 97 rfl ⟨_, hdI, hagg⟩ _ _ _ HRow.out sizeItem Hle.out _ Hext.out ?_)
          | ((with_reducible refine at_alloc 93 ?_); refine wpList_newA st1 rfl 93 rfl _ hz ?_; intro b6 w2 st2; clear st1)
          | ((with_reducible refine at_store 93 ?_); refine wpList_storeR st2 rfl 93 _ _ rfl 0 b6 rfl (.agg X) rfl _ _ rfl HS.out HXs.out HX1.out _ rfl ?_; intro w3 st3; clear st2; have hc0 := (st3.cell (i := 0) rfl 0).trans hX0)
          | ((with_reducible refine at_load 38 ?_); refine wpList_loadP rfl 38 _ rfl b6 1 32 rfl aggDigE _ _ _ (st3.at (i := 0) rfl) sizeDig0 (by show 1 + 32 ≤ X.size; rw [HXz.out]; decide) _ HXd.out ?_)
          | ((with_reducible refine at_load 40 ?_); refine wpList_loadP rfl 40 _ rfl b6 33 64 rfl aggLeaf _ _ _ (st3.at (i := 0) rfl) sizeLeaf0 (by show 33 + 64 ≤ X.size; rw [HXz.out]; decide) _ HXl.out ?_)
          | ((with_reducible refine at_build 38 ?_); refine wpList_build rfl 38 _ rfl [] ?_ _ HBd.out ?_; (· (simp [Act.eval]; done)))
          | ((with_reducible refine at_build 40 ?_); refine wpList_build rfl 40 _ rfl [] ?_ _ HBl.out ?_; (· (simp [Act.eval]; done))))
        go_ret2
        exact HP.out _ _ _ _ st3.below rfl
      · by_cases hk3 : 3 < kd
        · go_wp2_with (first
          | ((with_reducible refine at_load 93 ?_); refine wpList_loadP rfl 93 _ rfl b (off + k * 97) 97 rfl ⟨_, hdI, hagg⟩ _ _ _ HRow.out sizeItem Hle.out _ Hext.out ?_)
          | ((with_reducible refine at_alloc 93 ?_); refine wpList_newA st1 rfl 93 rfl _ hz ?_; intro b6 w2 st2; clear st1)
          | ((with_reducible refine at_store 93 ?_); refine wpList_storeR st2 rfl 93 _ _ rfl 0 b6 rfl (.agg X) rfl _ _ rfl HS.out HXs.out HX1.out _ rfl ?_; intro w3 st3; clear st2; have hc0 := (st3.cell (i := 0) rfl 0).trans hX0)
          | ((with_reducible refine at_load 38 ?_); refine wpList_loadP rfl 38 _ rfl b6 1 32 rfl aggDigE _ _ _ (st3.at (i := 0) rfl) sizeDig0 (by show 1 + 32 ≤ X.size; rw [HXz.out]; decide) _ HXd.out ?_)
          | ((with_reducible refine at_load 40 ?_); refine wpList_loadP rfl 40 _ rfl b6 33 64 rfl aggLeaf _ _ _ (st3.at (i := 0) rfl) sizeLeaf0 (by show 33 + 64 ≤ X.size; rw [HXz.out]; decide) _ HXl.out ?_)
          | ((with_reducible refine at_build 38 ?_); refine wpList_build rfl 38 _ rfl [] ?_ _ HBd.out ?_; (· (simp [Act.eval]; done)))
          | ((with_reducible refine at_build 40 ?_); refine wpList_build rfl 40 _ rfl [] ?_ _ HBl.out ?_; (· (simp [Act.eval]; done))))
          go_ret2
          exact HP.out _ _ _ _ st3.below rfl
        · have hkd : kd = 0 ∨ kd = 1 ∨ kd = 2 ∨ kd = 3 := by omega
          clear hk0 hk3
          rcases hkd with rfl | rfl | rfl | rfl <;> cases B <;> cases q1 <;> cases q2
          all_goals
            go_wp2_with (first
          | ((with_reducible refine at_load 93 ?_); refine wpList_loadP rfl 93 _ rfl b (off + k * 97) 97 rfl ⟨_, hdI, hagg⟩ _ _ _ HRow.out sizeItem Hle.out _ Hext.out ?_)
          | ((with_reducible refine at_alloc 93 ?_); refine wpList_newA st1 rfl 93 rfl _ hz ?_; intro b6 w2 st2; clear st1)
          | ((with_reducible refine at_store 93 ?_); refine wpList_storeR st2 rfl 93 _ _ rfl 0 b6 rfl (.agg X) rfl _ _ rfl HS.out HXs.out HX1.out _ rfl ?_; intro w3 st3; clear st2; have hc0 := (st3.cell (i := 0) rfl 0).trans hX0)
          | ((with_reducible refine at_load 38 ?_); refine wpList_loadP rfl 38 _ rfl b6 1 32 rfl aggDigE _ _ _ (st3.at (i := 0) rfl) sizeDig0 (by show 1 + 32 ≤ X.size; rw [HXz.out]; decide) _ HXd.out ?_)
          | ((with_reducible refine at_load 40 ?_); refine wpList_loadP rfl 40 _ rfl b6 33 64 rfl aggLeaf _ _ _ (st3.at (i := 0) rfl) sizeLeaf0 (by show 33 + 64 ≤ X.size; rw [HXz.out]; decide) _ HXl.out ?_)
          | ((with_reducible refine at_build 38 ?_); refine wpList_build rfl 38 _ rfl [] ?_ _ HBd.out ?_; (· (simp [Act.eval]; done)))
          | ((with_reducible refine at_build 40 ?_); refine wpList_build rfl 40 _ rfl [] ?_ _ HBl.out ?_; (· (simp [Act.eval]; done))))
            go_roundw
            case rel => exact HN.out _ _ st3.drop
            case measure => simp [intOf]; omega
    · obtain rfl : k = l.length := by omega
      go_upto_region 10 with (first
        | (go_at_call 113; refine (HR.out _ st1.below).mono ?_; rintro e w2 ⟨hb2, rfl | ⟨T1, y1, v1, m1, rfl, hm1, hr1⟩⟩ <;> (have st2 := st1.call hb2; clear st1 hb2)))
      · cases B
        · go_wp2
          go_ret2
          exact HP.out _ _ _ _ st2.below rfl
        · go_wp2
          go_ret2
          exact HP.out _ _ _ _ st2.below rfl
      · obtain ⟨_, _, a1, c1, rfl, _⟩ := hr1
        by_cases h0 : (l.drop m1).length = 0
        · rw [h0]
          cases B
          · go_wp2
            go_ret2
            exact HP.out _ _ _ _ st2.below rfl
          · go_wp2
            go_ret2
            exact HP.out _ _ _ _ st2.below rfl
        · have h1 : (0 : Int) < ((l.drop m1).length : Nat) := by omega
          generalize (l.drop m1).length = n1 at *
          cases B
          · go_wp2
            go_ret2
            exact HP.out _ _ _ _ st2.below rfl
          · go_wp2
            go_ret2
            exact HP.out _ _ _ _ st2.below rfl

end Go.Proofs.YtlcngapphloafaaGreatDoor
end
