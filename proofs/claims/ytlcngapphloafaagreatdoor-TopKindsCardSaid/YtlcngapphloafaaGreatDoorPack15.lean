/- Parts of the proof that are used by the claim: KeyOf, Tree2, Tree3, Back, At1, Put, Put2, PTools, Prove, Rules, PCheck. No condition is added here. -/
import Derived.Test.YtlcngapphloafaaGreatDoorPack14
import Derived.Laws.ResultCell

/- Package key: Of. -/
section
open Go Go.RowKit
namespace Go.Proofs.YtlcngapphloafaaGreatDoor

/-- The cells of bytes that are read, taken as an array. -/
theorem run_loadVar_bytes {P : Program} {ty : TypeId} {n : Nat} (hagg : ∃ d, P.underlying ty = some d ∧ aggB d = true) (hi : (P.info? ty).map (·.size) = some n) {w : World} {b off : Nat} {l : List Nat} (hl : n ≤ l.length)
    (hc : ∀ k, k < l.length → w.cell? ⟨b, off + k, none⟩ = some (.int .u8 (l.getD k 0 : Nat))) : (loadVar ty ⟨b, off, none⟩).run P w = .ok (.agg (kv (l.take n))) w := by
  obtain ⟨d, hu, hd⟩ := hagg
  have hlen : (bcells (l.take n)).length = n := by rw [bcells_len, List.length_take]; omega
  have hcells := run_loadCells_list (P := P) w ⟨b, off, none⟩ (bcells (l.take n)) (fun j v hv => by
    have hadd : (⟨b, off, none⟩ : Addr).add j = ⟨b, off + j, none⟩ := by unfold Addr.add; split <;> simp_all
    have hj : j < n := by have := (List.getElem?_eq_some_iff.1 hv).1; rwa [hlen] at this
    rw [hadd, hc j (by omega), ← hv, bcells_get _ j (by rw [List.length_take]; omega)]
    simp [List.getD_eq_getElem?_getD, hj])
  cases hq : P.info? ty with
  | none => simp [hq] at hi
  | some i =>
    have hs : i.size = n := by simpa [hq] using hi
    have hag : (isAgg ty).run P w = .ok true w := by
      unfold isAgg
      rw [Sem.run_bind, run_underlying hu w]
      cases d <;> simp_all [aggB]
    rw [hlen, bcells_kv] at hcells
    simp [loadVar, Sem.run_bind, hag, sizeOf, typeInfo, hq, hs, hcells]

section
variable {P : Program} {ops : Array Oper} {rest : List Oper} {o : Oper} {a : Act} {w : World} {Q : Exit → Act → World → Prop}
/-- Bytes of a slice loaded as an array. -/
theorem wpList_loadB (hgd : Region.wanted o (yielded ops a.tmps) = true) (ty : TypeId) (x : Operand) (ho : o.op = .load ty x)
    (b off n : Nat) (hx : a.eval x = .pointer (some ⟨b, off, none⟩)) (hagg : ∃ d, P.underlying ty = some d ∧ aggB d = true) (hi : (P.info? ty).map (·.size) = some n) (l : List Nat) (hl : n ≤ l.length)
    (hc : ∀ k, k < l.length → w.cell? ⟨b, off + k, none⟩ = some (.int .u8 (l.getD k 0 : Nat)))
    (h : wpList P ops Q rest (a.put o.dst (.agg (kv (l.take n)))) w) : wpList P ops Q (o :: rest) a w := by
  refine wpList_wanted hgd fun K hK => ?_
  unfold Oper.wp execOp
  have hl := run_loadVar_bytes (P := P) hagg hi hl hc
  simp only [ho, hx, Instr.loadAt, Instr.sureAddr, Sem.run_bind, Sem.run_pure, Result.andThen_ok, hl, Oper.upon]
  exact hK _ _ h
/-- Two results: a block of its own, and a value. -/
theorem ret_row2 {fn : Func} {R : Ending → World → Prop} {p u : Tmp} {ty : TypeId} (hr : fn.results = #[.cell p ty, .tmp u]) (g : Nat) (cs : Array Value) (t : TypeId) (hagg : ∃ d, P.underlying ty = some d ∧ aggB d = true)
    (hp : a.tmps.getD p undef = .pointer (some ⟨g, 0, none⟩)) (hg : w.heap[g]? = some (.cells cs t (0, 0))) (hi : (P.info? ty).map (·.size) = some cs.size) (v : Value) (hv : a.tmps.getD u undef = v) (hdf : a.defers = [])
    (hR : R (.returned (.tuple #[.agg cs, v])) w) : bodyPost P fn R .ret a w := by
  obtain ⟨d, hu, hd⟩ := hagg
  have h := run_loadVar_part (P := P) w g 0 cs.size t ty cs (0, 0) d hg hu hd hi (by omega)
  rw [Nat.zero_add, Array.extract_size] at h
  refine ⟨hdf, _, ?_, hR⟩
  rw [results_cell_tmp hr, hp, hv]
  simp [asAddr, h, Result.andThen]
end

theorem arrayAtKey (a : Addr) (cap : Nat) (w : World) : (Instr.arrayAt 37 (.slice (some a) 32 cap)).run Tryz.prog w = .ok (.pointer (some a)) w := by kernel_rfl

set_option maxRecDepth 20000 in
set_option maxHeartbeats 1000000 in
theorem KeyOf_calls (l : List Nat) (v : Value) (hl : l.length = 32) (w : World) (hv : RdB w v l) :
    Calls Tryz.prog 139 #[v] w fun e w' => e = .returned (.tuple #[.agg (kv l), .int .i64 0]) ∧ Below w.heap.size w w' := by
  obtain ⟨a, cap, rfl, Hc⟩ := hv.open
  obtain ⟨b, off, rfl, hc⟩ := Hc.out (by omega)
  have HC := Lib.hid hc
  have Hl := Lib.hid hl
  have Hle : Hid (32 ≤ l.length) := by unfold Hid; omega
  have Htk : Hid (l.take 32 = l) := List.take_of_length_le (by omega)
  clear hc hv Hc
  rw [hl]
  have st := St.init w
  have hat := arrayAtKey ⟨b, off, none⟩ cap
  go_enter Tryz.func139, Tryz.ntmps139
  go_wp2_with (first
    | (refine wpList_newA st rfl 37 rfl _ zeroKey ?_; intro b2 w1 st1; clear st)
    | (refine wpList_loadB rfl 37 _ rfl b off 32 rfl aggKeyE sizeKey0 l Hle.out (HC.out _ st1.below) ?_; rw [Htk.out])
    | (refine wpList_storeR st1 rfl 37 _ _ rfl 0 b2 rfl (.agg (kv l)) rfl _ _ rfl (sizeKv Hl.out) (by show (kv l).size = _; rw [kv_size, Hl.out, kv_size]; rfl) (kv_one _) _ rfl ?_; intro w4 st4; clear st1))
  exact ret_row2 rfl b2 _ _ aggKeyE rfl (st4.at (i := 0) rfl) (sizeKv Hl.out) _ rfl rfl ⟨rfl, st4.below⟩

end Go.Proofs.YtlcngapphloafaaGreatDoor
end

/- Package tree: entry. -/
section
open Go Go.RowKit
namespace Go.Proofs.YtlcngapphloafaaGreatDoor

theorem shapeEntry : shapeOf Tryz.prog 52 = some (33, [(0, 32), (32, 1)]) := by kernel_rfl
theorem builtEntry (k : List Nat) (a : Option Addr) (n c : Nat) (hk : k.length = 32) : Tryz.prog.built 52 (partsAt 0 [.agg (kv k), .slice a n c]) = some (entryCells k (.slice a n c)) := by
  rw [built_struct shapeEntry [.agg (kv k), .slice a n c] (by simp [consec, Value.cells, kv_size, hk]) (by simp [catV, Value.cells, kv_toList, bcells_len, hk])]
  simp [catV, Value.cells, entryCells, ← bcells_kv]
theorem zeroEntry : ∃ z : Array Value, z.size = 33 ∧ (Tryz.prog.info? 52).bind (·.zero) = some (.agg z) := ⟨entryCells (List.replicate 32 0) (.slice none 0 0), by unfold entryCells; rw [Array.size_append, kv_size]; rfl, by kernel_rfl⟩
theorem sizeEntry0 : (Tryz.prog.info? 52).map (·.size) = some 33 := by kernel_rfl
theorem aggEntry : ∃ d, Tryz.prog.underlying 52 = some d ∧ aggB d = true := by
  have h : (Tryz.prog.underlying 52).map aggB = some true := by kernel_rfl
  cases hq : Tryz.prog.underlying 52 with
  | none => rw [hq] at h; cases h
  | some d => rw [hq] at h; exact ⟨d, rfl, Option.some.inj h⟩
theorem entryCells_one (k : List Nat) (a : Option Addr) (n c : Nat) : ∀ u ∈ (entryCells k (.slice a n c)).toList, u.oneCell' = true := by
  intro u hu
  unfold entryCells at hu
  rw [Array.toList_append, List.mem_append] at hu
  rcases hu with hu | hu
  · exact kv_one _ u hu
  · obtain rfl : u = .slice a n c := by simpa using hu
    rfl
theorem entryCells_size (k : List Nat) (s : Value) (hk : k.length = 32) : (entryCells k s).size = 33 := by unfold entryCells; rw [Array.size_append, kv_size, hk]; rfl

set_option maxRecDepth 20000 in
set_option maxHeartbeats 1000000 in
theorem entry_calls (k : List Nat) (v : Value) (hk : k.length = 32) (a : Option Addr) (n c : Nat) (hn : n ≤ 65535) (w : World) (hv : RdB w v k) :
    Calls Tryz.prog 89 #[v, .slice a n c] w fun e w' => e = .returned (.tuple #[.agg (entryCells k (.slice a n c)), .int .i64 0]) ∧ Below w.heap.size w w' := by
  have HO := Lib.hid (fun wx h => KeyOf_calls k v hk wx h)
  have HV := Lib.hid hv
  have Hk := Lib.hid hk
  have HB := Lib.hid (builtEntry k a n c hk)
  have HS := Lib.hid (entryCells_size k (.slice a n c) hk)
  have H1 := Lib.hid (entryCells_one k a n c)
  obtain ⟨ze, hze, hz0⟩ := zeroEntry
  clear hv
  generalize entryCells k (.slice a n c) = ec at *
  have st := St.init w
  go_enter Tryz.func89, Tryz.ntmps89
  go_wp2_with (first
    | (refine wpList_newA st rfl 52 rfl _ hz0 ?_; intro b4 w1 st1; clear st)
    | (go_at_call 139; refine (HO.out _ (HV.out.call st1.below)).mono ?_; rintro e w2 ⟨rfl, hbel⟩; have st2 := st1.call hbel; clear st1 hbel)
    | (refine wpList_newA st2 rfl 37 rfl _ zeroKey ?_; intro b6 w3 st3; clear st2)
    | (refine wpList_storeR st3 rfl 37 _ _ rfl 0 b6 rfl (.agg (kv k)) rfl _ _ rfl (sizeKv Hk.out) (by show (kv k).size = _; rw [kv_size, Hk.out, kv_size]; rfl) (kv_one _) _ rfl ?_; intro w4 st4; clear st3)
    | (refine wpList_loadR rfl 37 _ rfl b6 rfl _ aggKey rfl _ _ (st4.at (i := 0) rfl) (sizeKv Hk.out) ?_)
    | (refine wpList_build rfl 52 _ rfl (partsAt 0 [.agg (kv k), .slice a n c]) ?_ _ HB.out ?_; (· (simp [Act.eval, partsAt]; done)))
    | (refine wpList_storeR st4 rfl 52 _ _ rfl 1 b4 rfl (.agg ec) rfl _ _ rfl (by show _ = some ec.size; rw [HS.out]; exact sizeEntry0) (by show ec.size = _; rw [HS.out, hze]) H1.out _ rfl ?_; intro w5 st5; clear st4))
  exact ret_row2 rfl b4 _ _ aggEntry rfl (st5.at (i := 1) rfl) (by show _ = some ec.size; rw [HS.out]; exact sizeEntry0) _ rfl rfl ⟨rfl, st5.below⟩

end Go.Proofs.YtlcngapphloafaaGreatDoor
end

/- Package tree: start. -/
section
open Go Go.RowKit
namespace Go.Proofs.YtlcngapphloafaaGreatDoor

theorem sizeEntryOf {ec : Array Value} (h : ec.size = 33) : (Tryz.prog.info? 52).map (·.size) = some ec.size := by rw [h]; exact sizeEntry0

set_option maxRecDepth 20000 in
set_option maxHeartbeats 1000000 in
theorem start_ok (tb : Nat) (op : ByteArray) (k : List Nat) (v : Value) (hk : k.length = 32) (a : Option Addr) (n c : Nat) (hn : n ≤ 65535) (w : World) (hv : RdB w v k) :
    Calls Tryz.prog 47 #[.pointer (some ⟨tb, 0, none⟩), .string op, v, .slice a n c] w fun e w' => e = .returned (.tuple #[.agg (entryCells k (.slice a n c)), .nilIface]) ∧ Below w.heap.size w w' := by
  have HE := Lib.hid (fun wx h => entry_calls k v hk a n c hn wx h)
  have HV := Lib.hid hv
  have HS := Lib.hid (entryCells_size k (.slice a n c) hk)
  have H1 := Lib.hid (entryCells_one k a n c)
  obtain ⟨ze, hze, hz0⟩ := zeroEntry
  obtain ⟨dE, hdE, haE⟩ := aggEntry
  clear hv
  generalize entryCells k (.slice a n c) = ec at *
  have st := St.init w
  go_enter Tryz.func47, Tryz.ntmps47
  go_wp2_with (first
    | (refine wpList_newA st rfl 52 rfl _ hz0 ?_; intro b8 w1 st1; clear st)
    | (go_at_call 89; refine (HE.out _ (HV.out.call st1.below)).mono ?_; rintro e w2 ⟨rfl, hbel⟩; have st2 := st1.call hbel; clear st1 hbel)
    | (refine wpList_newA st2 rfl 52 rfl _ hz0 ?_; intro b10 w3 st3; clear st2)
    | (refine wpList_storeR st3 rfl 52 _ _ rfl 0 b10 rfl (.agg ec) rfl _ _ rfl (sizeEntryOf HS.out) (by show ec.size = _; rw [HS.out, hze]) H1.out _ rfl ?_; intro w4 st4; clear st3))
  have st4' : St w.heap.size w [(b10, ec, 52), (b8, ze, 52)] w4 := st4
  clear st4
  refine region_inv 4 st4' mixed (by kernel_rfl) ?_
  intro I hI hI'
  simp only [List.take_succ_cons, List.take_zero, List.drop_succ_cons, List.drop_zero]
  (refine Inv.wpInv_step (fun K hK => ?_); go_simp; refine inv_loadR 52 _ rfl b10 rfl _ hdE haE _ _ (fun wx hw => (hI wx hw).at (i := 0) rfl) (sizeEntryOf HS.out) ?_
   refine hK _ ?_; clear hK K)
  iterate 2
    (refine Inv.wpInv_step (fun K hK => ?_); go_simp; apply inv_run; · (intro wx hw; go_simp; (try go_ints); (try go_simp); (try (rw [if_pos (by omega)])); (try go_simp); (first | done | rfl))
     refine hK _ ?_; clear hK K)
  (refine Inv.wpInv_step (fun K hK => ?_); go_simp; refine inv_call hI hI' 88 #[.string op, .int .i64 0, .int .i64 0] ?_ (fun wx stx => (failOK_calls (.string op) (.int .i64 0) wx).mono (fun e w' h => ⟨h.1, h.2 ▸ Below.refl _ _⟩)) ?_; · (intro wx hw; go_simp)
   refine hK _ ?_; clear hK K)
  refine Inv.wpInv_nil ?_
  intro w6 st6
  clear hI hI' st4'
  go_wp2_with (first
    | (refine wpList_storeR st6 rfl 52 _ _ rfl 1 b8 rfl (.agg ec) rfl _ _ rfl (sizeEntryOf HS.out) (by show ec.size = _; rw [HS.out, hze]) H1.out _ rfl ?_; intro w7 st7; clear st6))
  exact ret_row2 rfl b8 _ _ ⟨dE, hdE, haE⟩ rfl (st7.at (i := 1) rfl) (sizeEntryOf HS.out) _ rfl rfl ⟨rfl, st7.below⟩

end Go.Proofs.YtlcngapphloafaaGreatDoor
end

/- slices.Backward over no nodes: its iterator. -/
section
open Go Go.RowKit
namespace Go.Proofs.YtlcngapphloafaaGreatDoor
attribute [local go_sem] Oper.semAt_some

theorem BackN_calls (w : World) :
    Calls Tryz.prog 141 #[.slice none 0 0] w fun e w' => ∃ Bs, e = .returned (.func (.func 167) #[] #[.pointer (some ⟨Bs, 0, none⟩)]) ∧
      St w.heap.size w [(Bs, #[.slice none 0 0], 106)] w' := by
  have st := St.init w
  go_enter Tryz.func141, Tryz.ntmps141
  go_wp2_with (first
    | (refine wpList_box st rfl 106 _ rfl (.slice none 0 0) rfl ?_; intro b1 w1 st1; clear st))
  go_ret
  exact ⟨_, rfl, st1⟩

set_option maxRecDepth 100000 in
set_option maxHeartbeats 2000000 in
theorem backN1_in (n l Bs : Nat) (J : List Unit → World → Prop) (W : World) (hc : W.cell? ⟨Bs, 0, none⟩ = some (.slice none 0 0)) (h0 : J [] W) :
    CallsIn Fence.wide n Tryz.prog 167 #[.func (.yield l) #[] #[], .pointer (some ⟨Bs, 0, none⟩)] W fun e W' => (∃ v, e = .returned v) ∧ J [] W' := by
  refine callsIn_of_wp Tryz.func167 rfl trivial ?_ rfl
  simp only [Tryz.ntmps167, List.size_toArray, List.length_cons, List.length_nil, Nat.reduceAdd, Nat.reduceSub, Array.replicate_succ, Array.replicate_zero, List.push_toArray, List.append_toArray, List.nil_append, List.cons_append]
  gi_wp2
  gi_loopw [3] (fun i wr => i = .int .i64 (-1) ∧ J [] wr) (fun _ _ => 0)
  case atStart => exact ⟨rfl, h0⟩
  case round =>
    obtain ⟨rfl, hJs⟩ := hrel
    gi_wp2
    go_end0
    exact ⟨⟨_, rfl⟩, hJs⟩

/-- No node: no round. -/
theorem backN_stops (n : Nat) (Bs : Nat) (Kp : World → World → Prop) (w : World) (hc : w.cell? ⟨Bs, 0, none⟩ = some (.slice none 0 0)) :
    SeqStopsK Fence.wide n Tryz.prog 167 #[.pointer (some ⟨Bs, 0, none⟩)] (fun _ : Unit => #[Value.int .i64 0, .pointer none]) Kp (fun ys => ys = []) (fun _ => True) 0 w := fun l J Jx W hW _ _ _ h0 => by
  refine (backN1_in n l Bs J W ((hW.cell (block_lt_cell hc)).trans hc) h0).mono ?_
  rintro e W' ⟨he, hj⟩
  exact ⟨he, .inl ⟨_, rfl, hj⟩⟩

end Go.Proofs.YtlcngapphloafaaGreatDoor
end

/- Package put: the way up over no node beside. -/
section
open Go Go.RowKit
namespace Go.Proofs.YtlcngapphloafaaGreatDoor
attribute [local go_sem] Oper.semAt_some

set_option maxRecDepth 100000 in
set_option maxHeartbeats 4000000 in
theorem At1_calls (p : Option Addr) (b9 : Nat) (c2 c3 c4 : Value) (w : World) (hc9 : w.cell? ⟨b9, 0, none⟩ = some (.slice none 0 0)) :
    Calls Tryz.prog 140 #[.pointer p, .pointer (some ⟨b9, 0, none⟩), c2, c3, c4] w fun e w' => e = .returned (.pointer p) ∧ Below w.heap.size w w' := by
  have h9 := block_lt_cell hc9
  have st := St.init w
  refine (callsIn_wide (n := 3)).1 ?_
  refine callsIn_of_wp_marks Tryz.func140 rfl trivial ?_ rfl
  simp only [Tryz.ntmps140, List.size_toArray, List.length_cons, List.length_nil, Nat.reduceAdd, Nat.reduceSub, Array.replicate_succ, Array.replicate_zero, List.push_toArray, List.append_toArray, List.nil_append, List.cons_append]
  refine wpIn_wide.2 ?_
  go_wp2_with (first
    | (refine wpList_box st rfl 59 _ rfl (.pointer p) rfl ?_; intro b5 w3 st3; clear st; have hc9' := (st3.below.cell h9).trans hc9)
    | (go_at_call 141; refine (BackN_calls _).mono ?_; rintro e w4 ⟨Bs, rfl, stw⟩))
  have st5 : St w.heap.size w ((Bs, #[.slice none 0 0], 106) :: (b5, #[.pointer p], 59) :: []) w4 := st3.join stw
  clear st3 stw
  have hcn : w4.cell? ⟨Bs, 0, none⟩ = some (.slice none 0 0) := st5.cell (i := 0) rfl 0
  have hbase := st5.size
  refine wpIn_wide.1 (wpIn_rangeFunc_ownG (F := Fence.wide) (n := 3) rfl (by omega) (gf := 167) (lb := #[.pointer (some ⟨Bs, 0, none⟩)]) rfl trivial (enters_of Tryz.func167 (by kernel_rfl) rfl)
    (backN_stops 2 Bs (fun _ _ => True) w4 hcn)
    (fun _ _ => trivial) (fun _ _ _ _ _ _ _ _ => trivial) (Below.refl _ _) (fun _ => rfl)
    (fun pre W => pre = [] ∧ St w.heap.size w ((Bs, #[.slice none 0 0], 106) :: (b5, #[.pointer p], 59) :: []) W)
    (fun _ _ _ => False) ?own (fun _ _ _ _ _ h _ _ => h) ⟨rfl, st5⟩
    (fun _ => { tmps := #[.pointer p, .pointer (some ⟨b9, 0, none⟩), c2, c3, c4, .pointer (some ⟨b5, 0, none⟩), .pointer none, .int .i64 0, .pointer none, .slice none 0 0, .func (.func 167) #[] #[.pointer (some ⟨Bs, 0, none⟩)], .int .i64 0, .pointer none, undef, undef, undef, undef, undef, undef, undef, undef, undef, undef], defers := [] }) ?assign ?body ?done ?stop)
  case own =>
    intro s W W' row h hg hr
    exact ⟨h.1, St.ownFrom (fun _ : Unit => _) hbase () W W' row h.2 hg hr⟩
  case assign =>
    intro l' x W K' hK'
    gi_wp2
    exact hK'
  case stop =>
    rintro D c pre W _ _ h _
    exact h.elim
  case body =>
    rintro l' pre x W _ h
    exact absurd h (Nat.not_lt_zero _)
  case done =>
    rintro D xs W hD rfl ⟨_, st⟩ hKd
    have hc5 := st.cell (i := 1) rfl 0
    go_wp2
    have st7 := st.putDef (by omega) hKd
    refine retM D rfl hKd ⟨rfl, .pointer p, ?_, rfl, st7.below⟩
    exact results_tmp (fn := Tryz.f140) rfl _ _ _

end Go.Proofs.YtlcngapphloafaaGreatDoor
end

/- Package put: At and Put at no node. -/
section
open Go Go.RowKit
namespace Go.Proofs.YtlcngapphloafaaGreatDoor

theorem zeroSN2 : (Tryz.prog.info? 106).bind (·.zero) = some (.slice none 0 0) := by kernel_rfl

set_option maxRecDepth 20000 in
set_option maxHeartbeats 1000000 in
theorem AtNil_calls (KK : List Int) (k l : List Nat) (a : Option Addr) (c : Nat) (hb cb : Nat) (bits n : Int) (w : World) (hh : HasH hb cb bits n w) (hB : 0 ≤ bits ∧ bits ≤ 256) (hn : -4611686018427387904 ≤ n ∧ n < 4611686018427387904)
    (hk : Key k) (hby : ∀ x ∈ l, x < 256) (hl : l.length ≤ 1099511627770) (hv : RdB w (.slice a l.length c) l) (hK : HasK KK w) :
    Calls Tryz.prog 90 #[.pointer (some ⟨hb, 0, none⟩), .pointer none, .agg (entryCells k (.slice a l.length c)), .int .i64 0] w
      fun e w' => ∃ nb a' c', e = .returned (.pointer (some ⟨nb, 0, none⟩)) ∧ w.heap.size ≤ nb ∧
        w'.heap[nb]? = some (.cells (nodeCells (leafIface k (hashF KK bits (2 :: l)) (.slice a' l.length c')) (hashF KK bits (0 :: (k ++ hashF KK bits (2 :: l))))) 182 (0, 0)) ∧
        RdB w' (.slice a' l.length c') l ∧ w.grownBy w' (some cb) ∧ HasH hb cb bits (n + 2) w' := by
  have HH := Lib.hid hh
  have HV := Lib.hid hv
  have HKK := Lib.hid hK
  have HN := Lib.hid (fun wx h1 h2 h3 => NewLeaf_calls KK k l a c hb cb bits n wx h1 hB hn hk hby hl h2 h3)
  have HES := Lib.hid (entryCells_size k (.slice a l.length c) hk.len)
  obtain ⟨dE, hdE, haE⟩ := aggEntry
  clear hh hv hK hB hn hk hby hl
  have st := St.init w
  generalize entryCells k (.slice a l.length c) = ec at *
  generalize l.length = ln at *
  go_enter Tryz.func90, Tryz.ntmps90
  go_wp2_with (first
    | (refine wpList_box st rfl 29 _ rfl (.pointer (some ⟨hb, 0, none⟩)) rfl ?_; intro b4 w1 st1; clear st)
    | (refine wpList_boxA st1 rfl 52 _ rfl ec rfl ?_; intro b6 w2 st2; clear st1)
    | (refine wpList_box st2 rfl 3 _ rfl (.int .i64 0) rfl ?_; intro b7 w3 st3; clear st2)
    | (refine wpList_new st3 rfl 106 rfl _ zeroSN2 ?_; intro b9 w4 st4; clear st3; have hc7 := st4.cell (i := 1) rfl 0; have hc4 := st4.cell (i := 3) rfl 0))
  go_loopw [1, 10] (fun x d wr => x = .pointer none ∧ d = .int .i64 0 ∧ St w.heap.size w [(b9, #[.slice none 0 0], 106), (b7, #[.int .i64 0], 3), (b6, ec, 52), (b4, #[.pointer (some ⟨hb, 0, none⟩)], 29)] wr) (fun _ _ _ => 0)
  case atStart => exact ⟨rfl, rfl, st4⟩
  case round =>
    obtain ⟨rfl, rfl, st5⟩ := hrel
    clear st4 hc7 hc4
    have hc4 := st5.cell (i := 3) rfl 0
    have st6 := StH.init HH.out st5
    go_wp2_with (first
      | (go_at_call 39; refine (KindNil_calls _).mono ?_; rintro e w6 ⟨rfl, rfl⟩)
      | (refine wpList_loadR rfl 52 _ rfl b6 rfl _ hdE haE _ _ (st5.at (i := 2) rfl) (by rw [HES.out]; exact sizeEntry0) ?_)
      | (go_at_call 143; refine (HN.out _ (StH.has st6 HH.out) (StH.rd st6 HH.out HV.out) (StH.hasK st6 HH.out HKK.out)).mono ?_; rintro e w7 ⟨nb, a', c', rfl, hnb, hrow, hrd, hg, hh7⟩; have st7 := StH.sum st6 HH.out hg hh7))
    refine Inv.wp_region_inv 11 (fun wx => Below w7.heap.size w7 wx) mixed (by kernel_rfl) (Below.refl _ _).drew ?_
    simp only [List.take_succ_cons, List.take_zero, List.drop_succ_cons, List.drop_zero]
    iterate 1
      (refine Inv.wpInv_step (fun K hK => ?_); go_simp; apply inv_run; · (intro wx hw; go_simp; (try go_ints); (try go_simp); (try (rw [if_pos (by omega)])); (try go_simp); (first | done | rfl))
       refine hK _ ?_; clear hK K)
    (refine Inv.wpInv_step (fun K hK => ?_); go_simp; refine ⟨.int .i64 0, OpInv_call 39 #[.pointer none] (fun wx _ => by go_simp) (fun wx hw => (KindNil_calls wx).mono (fun e w' h => ⟨h.1, h.2 ▸ hw⟩)), ?_⟩
     refine hK _ ?_; clear hK K)
    iterate 2
      (refine Inv.wpInv_step (fun K hK => ?_); go_simp; apply inv_run; · (intro wx hw; go_simp; (try go_ints); (try go_simp); (try (rw [if_pos (by omega)])); (try go_simp); (first | done | rfl))
       refine hK _ ?_; clear hK K)
    iterate 6 (refine Inv.wpInv_step (fun K hK => ?_); go_simp; refine hK _ ?_; clear hK K)
    iterate 1
      (refine Inv.wpInv_step (fun K hK => ?_); go_simp; apply inv_run; · (intro wx hw; go_simp; (try go_ints); (try go_simp); (try (rw [if_pos (by omega)])); (try go_simp); (first | done | rfl))
       refine hK _ ?_; clear hK K)
    refine Inv.wpInv_nil ?_
    intro w8 hb8
    have hc9 := (hb8.cell (block_lt_cell (st7.cell (i := 0) rfl 0))).trans (st7.cell (i := 0) rfl 0)
    have st8 := St.call st7 hb8
    go_wp2_with (first
      | (go_at_call 140; refine (At1_calls (some ⟨nb, 0, none⟩) b9 _ _ _ _ hc9).mono ?_; rintro e w9 ⟨rfl, hb9⟩))
    have hbt := hb8.trans (hb9.mono hb8.size)
    have st9 := St.call st8 hb9
    go_ret
    exact ⟨nb, a', c', rfl, Nat.le_trans st6.size hnb, (hbt.block nb (heap_lt hrow)).trans hrow, hrd.call hbt, StH.grown st9, StH.has st9 HH.out⟩

end Go.Proofs.YtlcngapphloafaaGreatDoor
end

/- Package put: Put at no node; package tree: Put, Hasher, Node, Root of a tree. -/
section
open Go Go.RowKit
namespace Go.Proofs.YtlcngapphloafaaGreatDoor
attribute [local irreducible] Inv.wpInv Mix.wpUp

theorem below_of_grown {B cb : Nat} {w w' : World} (hg : w.grownBy w' (some cb)) (hc : cb < w.heap.size) (h : B ≤ cb) : Below B w w' :=
  (Below.refl B w).grown hg (by omega) (fun k e => by cases e; exact h)

set_option maxRecDepth 20000 in
set_option maxHeartbeats 1000000 in
theorem PutNil_calls (KK : List Int) (k l : List Nat) (a : Option Addr) (c : Nat) (hb cb : Nat) (bits n : Int) (w : World) (hh : HasH hb cb bits n w) (hB : 0 ≤ bits ∧ bits ≤ 256) (hn : -4611686018427387904 ≤ n ∧ n < 4611686018427387904)
    (hk : Key k) (hby : ∀ x ∈ l, x < 256) (hl : l.length ≤ 1099511627770) (hv : RdB w (.slice a l.length c) l) (hK : HasK KK w) :
    Calls Tryz.prog 48 #[.pointer (some ⟨hb, 0, none⟩), .pointer none, .agg (entryCells k (.slice a l.length c))] w
      fun e w' => ∃ nb a' c', e = .returned (.pointer (some ⟨nb, 0, none⟩)) ∧ w.heap.size ≤ nb ∧
        w'.heap[nb]? = some (.cells (nodeCells (leafIface k (hashF KK bits (2 :: l)) (.slice a' l.length c')) (hashF KK bits (0 :: (k ++ hashF KK bits (2 :: l))))) 182 (0, 0)) ∧
        RdB w' (.slice a' l.length c') l ∧ w.grownBy w' (some cb) ∧ HasH hb cb bits (n + 2) w' := by
  have HH := Lib.hid hh
  have HV := Lib.hid hv
  have HKK := Lib.hid hK
  have HN := Lib.hid (fun wx h1 h2 h3 => AtNil_calls KK k l a c hb cb bits n wx h1 hB hn hk hby hl h2 h3)
  have HES := Lib.hid (entryCells_size k (.slice a l.length c) hk.len)
  obtain ⟨dE, hdE, haE⟩ := aggEntry
  clear hh hv hK hB hn hk hby hl
  have st := St.init w
  generalize entryCells k (.slice a l.length c) = ec at *
  generalize l.length = ln at *
  go_enter Tryz.func48, Tryz.ntmps48
  go_wp2_with (first
    | (refine wpList_boxA st rfl 52 _ rfl ec rfl ?_; intro b5 w2 st2; clear st; have st6 := StH.init HH.out st2)
    | (refine wpList_loadR rfl 52 _ rfl b5 rfl _ hdE haE _ _ (st2.at (i := 0) rfl) (sizeEntryOf HES.out) ?_)
    | (go_at_call 90; refine (HN.out _ (StH.has st6 HH.out) (StH.rd st6 HH.out HV.out) (StH.hasK st6 HH.out HKK.out)).mono ?_; rintro e w7 ⟨nb, a', c', rfl, hnb, hrow, hrd, hg, hh7⟩; have st7 := StH.sum st6 HH.out hg hh7))
  go_ret
  exact ⟨nb, a', c', rfl, Nat.le_trans st6.size hnb, hrow, hrd, StH.grown st7, StH.has st7 HH.out⟩

/-- A tree in memory. -/
def HasTr (tb hb : Nat) (r : Option Addr) (w : World) : Prop := w.heap[tb]? = some (.cells #[.pointer (some ⟨hb, 0, none⟩), .pointer r] 111 (0, 0))
theorem HasTr.cell0 {tb hb : Nat} {r : Option Addr} {w : World} (h : HasTr tb hb r w) : w.cell? ⟨tb, 0, none⟩ = some (.pointer (some ⟨hb, 0, none⟩)) := by unfold HasTr at h; simp [World.cell?, h]
theorem HasTr.cell1 {tb hb : Nat} {r : Option Addr} {w : World} (h : HasTr tb hb r w) : w.cell? ⟨tb, 1, none⟩ = some (.pointer r) := by unfold HasTr at h; simp [World.cell?, h]
theorem HasTr.call {tb hb : Nat} {r : Option Addr} {w w' : World} (h : HasTr tb hb r w) (hb' : Below w.heap.size w w') : HasTr tb hb r w' := (hb'.block tb (heap_lt h)).trans h
theorem HasTr.turn {tb hb cb : Nat} {r : Option Addr} {bits n : Int} {w w' : World} (h : HasTr tb hb r w) (hh : HasH hb cb bits n w) (hg : w.grownBy w' (some cb)) : HasTr tb hb r w' := by
  refine (hg.block tb (heap_lt h) (fun e => ?_)).trans h
  obtain rfl : tb = cb := Option.some.inj e
  have := h.symm.trans hh.c
  simp at this
theorem HasH.keep {tb hb cb : Nat} {r : Option Addr} {bits n : Int} {w w' : World} (hh : HasH hb cb bits n w) (h : HasTr tb hb r w) (hg : w.grownBy w' (some tb)) : HasH hb cb bits n w' := by
  unfold HasTr at h
  refine ⟨(hg.block hb (heap_lt hh.h) (fun e => ?_)).trans hh.h, (hg.block cb (heap_lt hh.c) (fun e => ?_)).trans hh.c⟩
  · obtain rfl : hb = tb := Option.some.inj e
    have := h.symm.trans hh.h
    simp at this
  · obtain rfl : cb = tb := Option.some.inj e
    have := h.symm.trans hh.c
    simp at this

set_option maxRecDepth 20000 in
set_option maxHeartbeats 2000000 in
theorem TPut_calls (KK : List Int) (tb : Nat) (k l : List Nat) (vk : Value) (a : Option Addr) (c : Nat) (hb cb : Nat) (bits n : Int) (w : World) (ht : HasTr tb hb none w) (hh : HasH hb cb bits n w) (hB : 0 ≤ bits ∧ bits ≤ 256) (hn : -4611686018427387904 ≤ n ∧ n < 4611686018427387904)
    (hk : Key k) (hby : ∀ x ∈ l, x < 256) (hl : l.length ≤ 65535) (hvk : RdB w vk k) (hv : RdB w (.slice a l.length c) l) (hK : HasK KK w) :
    Calls Tryz.prog 20 #[.pointer (some ⟨tb, 0, none⟩), vk, .slice a l.length c] w
      fun e w' => ∃ nb a' c', e = .returned .nilIface ∧ HasTr tb hb (some ⟨nb, 0, none⟩) w' ∧
        w'.heap[nb]? = some (.cells (nodeCells (leafIface k (hashF KK bits (2 :: l)) (.slice a' l.length c')) (hashF KK bits (0 :: (k ++ hashF KK bits (2 :: l))))) 182 (0, 0)) ∧
        HasH hb cb bits (n + 2) w' ∧ ∀ B, B ≤ tb → B ≤ cb → Below B w w' := by
  have HT := Lib.hid ht
  have HH := Lib.hid hh
  have HV := Lib.hid hv
  have HVK := Lib.hid hvk
  have HKK := Lib.hid hK
  have HS := Lib.hid (fun wx h => start_ok tb (String.toUTF8 "put") k vk hk.len a l.length c hl wx h)
  have HN := Lib.hid (fun wx h1 h2 h3 => PutNil_calls KK k l a c hb cb bits n wx h1 hB hn hk hby (by omega) h2 h3)
  have HES := Lib.hid (entryCells_size k (.slice a l.length c) hk.len)
  have HE1 := Lib.hid (entryCells_one k a l.length c)
  obtain ⟨dE, hdE, haE⟩ := aggEntry
  obtain ⟨ze, hze, hz0⟩ := zeroEntry
  clear ht hh hv hvk hK hB hn hk hby hl
  have st := St.init w
  generalize entryCells k (.slice a l.length c) = ec at *
  generalize l.length = ln at *
  go_enter Tryz.func20, Tryz.ntmps20
  go_wp2_with (first
    | (go_at_call 47; refine (HS.out _ HVK.out).mono ?_; rintro e w1 ⟨rfl, hbel⟩; have st1 := St.call st hbel; clear st hbel)
    | (refine wpList_newA st1 rfl 52 rfl _ hz0 ?_; intro b7 w2 st2; clear st1)
    | (refine wpList_storeR st2 rfl 52 _ _ rfl 0 b7 rfl (.agg ec) rfl _ _ rfl (sizeEntryOf HES.out) (by show ec.size = _; rw [HES.out, hze]) HE1.out _ rfl ?_; intro w3 st3; clear st2; have st4 := StH.init HH.out st3))
  have st4' : StH w cb n [(b7, ec, 52)] w3 := st4
  clear st3 st4
  have q : ∀ wx, (∃ m, StH w cb m [(b7, ec, 52)] wx) → wx.cell? ⟨tb, 0, none⟩ = some (.pointer (some ⟨hb, 0, none⟩)) ∧ wx.cell? ⟨tb, 1, none⟩ = some (.pointer none) := fun wx ⟨_, hw⟩ => by
    have h := HT.out.turn HH.out (StH.grown hw)
    exact ⟨h.cell0, h.cell1⟩
  refine Mix2.wp_region_mix (J := fun wx => ∃ m, StH w cb m [(b7, ec, 52)] wx) 11 (StH w cb n [(b7, ec, 52)]) mixed (by kernel_rfl) st4'.drew ?_
  intro F inv
  refine Mix2.good_batch (f := 1) F St.up (fun _ h => ⟨_, h⟩) [0, 1, 2, 3, 4, 5, 6, 7, 8, 9] _ _ inv (by kernel_rfl) ?_
  clear inv st4'
  iterate 9
    (refine Mix.wpUp_cons rfl (fun K hK => ?_); go_simp; apply up_run; · (intro wx hw; have q1 := q wx hw; go_simp; (try go_ints); (try go_simp); (try (rw [if_pos (by omega)])); (try go_simp); (first | done | rfl))
     refine hK _ ?_; clear hK K)
  (refine Mix.wpUp_cons rfl (fun K hK => ?_); go_simp; refine up_loadR 52 _ rfl b7 rfl _ hdE haE _ _ (fun wx hw => hw.choose_spec.at (i := 0) rfl) (sizeEntryOf HES.out) ?_
   refine hK _ ?_; clear hK K)
  refine Mix.wpUp_nil ?_
  intro inv
  refine Mix2.good_one (i := 10) (f := 0) (by kernel_rfl) inv (fun w6 st6 => ?_)
  clear inv q
  refine mxOp_call rfl rfl 48 #[.pointer (some ⟨hb, 0, none⟩), .pointer none, .agg ec] (by go_simp) ?_
  refine (HN.out _ (StH.has st6 HH.out) (StH.rd st6 HH.out HV.out) (StH.hasK st6 HH.out HKK.out)).mono ?_
  rintro e w7 ⟨nb, a', c', rfl, hnb, hrow, hrd, hg, hh7⟩
  have st7 := StH.sum st6 HH.out hg hh7
  refine ⟨_, rfl, fun wx => StH w cb (n + 2) [(b7, ec, 52)] wx ∧ wx.heap[nb]? = some (.cells (nodeCells (leafIface k (hashF KK bits (2 :: l)) (.slice a' ln c')) (hashF KK bits (0 :: (k ++ hashF KK bits (2 :: l))))) 182 (0, 0)), ?_, ⟨st7, hrow⟩, fun _ h => ⟨_, h.1⟩, fun inv => ?_⟩
  · exact fun wx wy h hb => ⟨St.call h.1 hb, (hb.block nb (heap_lt h.2)).trans h.2⟩
  have hN6 := Nat.le_trans st6.size hnb
  clear st6 hg hrow hrd st7 hh7 inv F hnb w6 w7
  refine ⟨by kernel_rfl, fun w7 ⟨st7, hrow⟩ => ?_⟩
  have ht7 := HT.out.turn HH.out (StH.grown st7)
  have hh7 := StH.has st7 HH.out
  simp only [List.drop_succ_cons, List.drop_zero, Act.put, List.getElem_toArray, List.getElem_cons_succ, List.getElem_cons_zero, List.setIfInBounds_toArray, List.set_cons_succ, List.set_cons_zero]
  go_wp2_with (first
    | (refine wpList_storeX rfl 59 _ _ rfl tb 1 rfl (.pointer (some ⟨nb, 0, none⟩)) rfl _ _ ht7 sizePN rfl (by simp) rfl _ rfl ?_; intro w8 hg8 ht8))
  have htl := heap_lt HT.out
  have hnt : nb ≠ tb := by have := st7.below.size; simp at this; have h6 := hN6; omega
  go_ret
  refine ⟨rfl, nb, ht8, ⟨a', c', (hg8.block nb (heap_lt hrow) (fun e => hnt (Option.some.inj e))).trans hrow⟩, hh7.keep ht7 hg8, fun B h1 h2 => ?_⟩
  exact (below_of_grown (StH.grown st7) (heap_lt HH.out.c) h2).trans (below_of_grown hg8 (heap_lt ht7) h1)

set_option maxHeartbeats 1000000 in
theorem THasher_calls (tb hb : Nat) (r : Option Addr) (w : World) (ht : HasTr tb hb r w) :
    Calls Tryz.prog 16 #[.pointer (some ⟨tb, 0, none⟩)] w fun e w' => e = .returned (.pointer (some ⟨hb, 0, none⟩)) ∧ w' = w := by
  have h0 := ht.cell0
  clear ht
  go_enter Tryz.func16, Tryz.ntmps16
  go_wp2
  go_ret
  exact ⟨rfl, rfl⟩

set_option maxHeartbeats 1000000 in
theorem TNode_calls (tb hb : Nat) (r : Option Addr) (w : World) (ht : HasTr tb hb r w) :
    Calls Tryz.prog 17 #[.pointer (some ⟨tb, 0, none⟩)] w fun e w' => e = .returned (.pointer r) ∧ w' = w := by
  have h0 := ht.cell1
  clear ht
  go_enter Tryz.func17, Tryz.ntmps17
  go_wp2
  go_ret
  exact ⟨rfl, rfl⟩

set_option maxRecDepth 20000 in
set_option maxHeartbeats 1000000 in
theorem TRoot_calls (tb hb nb : Nat) (c : Value) (d : List Nat) (hd : d.length = 32) (t : TypeId) (w : World) (ht : HasTr tb hb (some ⟨nb, 0, none⟩) w) (hn : w.heap[nb]? = some (.cells (nodeCells c d) t (0, 0))) :
    Calls Tryz.prog 21 #[.pointer (some ⟨tb, 0, none⟩)] w fun e w' => e = .returned (.agg (kv d)) ∧ Below w.heap.size w w' := by
  have HT := Lib.hid ht
  have HD := Lib.hid hd
  have HN := Lib.hid (fun wx h => DigestNode_calls c d hd (.pointer (some ⟨hb, 0, none⟩)) nb t wx h)
  have HW := Lib.hid hn
  clear ht hn hd
  generalize nodeCells c d = nc at *
  have st := St.init w
  go_enter Tryz.func21, Tryz.ntmps21
  go_wp2_with (first
    | (refine wpList_newA st rfl 38 rfl _ zeroDig ?_; intro b2 w1 st1; clear st))
  refine region_inv 9 st1 mixed (by kernel_rfl) ?_
  intro I hI hI'
  have q : ∀ wx, I wx → wx.cell? ⟨tb, 0, none⟩ = some (.pointer (some ⟨hb, 0, none⟩)) ∧ wx.cell? ⟨tb, 1, none⟩ = some (.pointer (some ⟨nb, 0, none⟩)) := fun wx hw => by
    have h := HT.out.call (hI wx hw).below
    exact ⟨h.cell0, h.cell1⟩
  simp only [List.take_succ_cons, List.take_zero, List.drop_succ_cons, List.drop_zero]
  iterate 8
    (refine Inv.wpInv_step (fun K hK => ?_); go_simp; apply inv_run; · (intro wx hw; have q1 := q wx hw; go_simp; (try go_ints); (try go_simp); (try (rw [if_pos (by omega)])); (try go_simp); (first | done | rfl))
     refine hK _ ?_; clear hK K)
  (refine Inv.wpInv_step (fun K hK => ?_); go_simp; refine inv_call hI hI' 43 #[.pointer (some ⟨hb, 0, none⟩), .pointer (some ⟨nb, 0, none⟩)] ?_ (fun wx stx => (HN.out wx ((stx.below.block nb (heap_lt HW.out)).trans HW.out))) ?_; · (intro wx hw; go_simp)
   refine hK _ ?_; clear hK K)
  refine Inv.wpInv_nil ?_
  clear q hI hI' st1
  intro w6 st6
  go_wp2_with (first
    | (refine wpList_storeR st6 rfl 38 _ _ rfl 0 b2 rfl (.agg (kv d)) rfl _ _ rfl (sizeDg HD.out) (by show (kv d).size = _; rw [kv_size, HD.out, kv_size]; rfl) (kv_one _) _ rfl ?_; intro w7 st7; clear st6))
  exact ret_row rfl b2 _ _ _ rfl (st7.at (i := 0) rfl) aggDig rfl (sizeDg HD.out) rfl ⟨rfl, st7.below⟩

end Go.Proofs.YtlcngapphloafaaGreatDoor
end

/- Parts of rows of many cells: struct values put together, stored into, read; equality of pairs of arrays of bytes. The api's Proof as cells. -/
section
open Go Go.RowKit
namespace Go.Proofs.YtlcngapphloafaaGreatDoor

/-- A part of a row exchanged. -/
def putAt (cs : Array Value) (off : Nat) (v : Value) : Array Value := (cs.toList.take off ++ (v.cells.toList ++ cs.toList.drop (off + v.cells.size))).toArray
theorem putAt_size {cs : Array Value} {off : Nat} {v : Value} (h : off + v.cells.size ≤ cs.size) : (putAt cs off v).size = cs.size := by simp [putAt]; omega
theorem putAt_mid (pre mid post : List Value) (v : Value) (off : Nat) (hp : pre.length = off) (hm : mid.length = v.cells.size) : putAt (pre ++ (mid ++ post)).toArray off v = (pre ++ (v.cells.toList ++ post)).toArray := by
  subst hp
  unfold putAt
  rw [List.toList_toArray, List.take_left' rfl, ← List.append_assoc pre mid post, List.drop_left' (by simp [hm])]
theorem extract_mid (pre mid post : List Value) (off n : Nat) (hp : pre.length = off) (hm : mid.length = n) : (pre ++ (mid ++ post)).toArray.extract off (off + n) = mid.toArray := by
  subst hp hm
  apply Array.ext'
  simp
theorem fill_put {place : Nat → Option (Nat × Nat)} {cells : Array Value} {i off : Nat} {v : Value} {rest : List (Nat × Value)} (hp : place i = some (off, v.cells.size)) (h : off + v.cells.size ≤ cells.size) :
    Instr.fill place cells ((i, v) :: rest) = Instr.fill place (putAt cells off v) rest := by
  simp only [Instr.fill, hp]
  rw [if_neg (by simp; omega), fold_set _ _ _ (by omega)]
  rfl

/-- The zero cells of a struct and the places of its parts. -/
def shapeZ (P : Program) (t : TypeId) : Option (Array Value × List (Nat × Nat)) :=
  match P.info? t, P.underlying t with
  | some it, some (.struct fields) =>
    match it.zero, fields.toList.mapM (fun f => (P.info? f.type).map fun i => (f.offset, i.size)) with
    | some z, some places => some (z.cells, places)
    | _, _ => none
  | _, _ => none
theorem built_fill {P : Program} {t : TypeId} {z : Array Value} {places : List (Nat × Nat)} (h : shapeZ P t = some (z, places)) (ps : List (Nat × Value)) : P.built t ps = Instr.fill (places.toArray[·]?) z ps := by
  unfold shapeZ at h
  unfold Program.built
  split at h
  · rename_i it fields h1 h2
    split at h
    · rename_i z' places' h3 h4
      simp only [Option.some.injEq, Prod.mk.injEq] at h
      obtain ⟨rfl, rfl⟩ := h
      simp only [h1, h2, h3, h4]
    · cases h
  · cases h

section
variable {P : Program} {ops : Array Oper} {rest : List Oper} {o : Oper} {a : Act} {w w0 : World} {Q : Exit → Act → World → Prop} {B : Nat} {L : List (Nat × Array Value × TypeId)}
theorem run_storeVar_part (w : World) (g off : Nat) (t ty : TypeId) (old : Array Value) (v : Value) (hg : w.heap[g]? = some (.cells old t (0, 0)))
    (hi : (P.info? ty).map (·.size) = some v.cells.size) (ho : off + v.cells.size ≤ old.size) (h1 : ∀ u ∈ v.cells.toList, u.oneCell' = true) :
    (storeVar ty ⟨g, off, none⟩ v).run P w = .ok () (w.setRow g (putAt old off v)) := by
  cases hq : P.info? ty with
  | none => simp [hq] at hi
  | some i =>
    have hs : i.size = v.cells.size := by simpa [hq] using hi
    have hst := run_storeCells_at P g off t v.cells.toList 0 old w hg (by simp; omega) h1
    have e : (old.toList.take (off + 0) ++ v.cells.toList ++ old.toList.drop (off + 0 + v.cells.toList.length)).toArray = putAt old off v := by
      unfold putAt; simp
    rw [e] at hst
    simp [storeVar, Sem.run_bind, sizeOf, typeInfo, hq, hs, hst]

/-- A part of a row stored. -/
theorem wpList_storeP (st : St B w0 L w) (hgd : o.guard = none) (ty : TypeId) (x y : Operand) (ho : o.op = .store ty x y)
    (i : Nat) (b off : Nat) (hx : a.eval x = .pointer (some ⟨b, off, none⟩)) (v : Value) (hy : a.eval y = v) (old : Array Value) (t : TypeId) (hL : L[i]? = some (b, old, t))
    (hi : (P.info? ty).map (·.size) = some v.cells.size) (hs : off + v.cells.size ≤ old.size) (h1 : ∀ u ∈ v.cells.toList, u.oneCell' = true)
    (cs' : Array Value) (hcs : putAt old off v = cs') (L' : List (Nat × Array Value × TypeId)) (hL' : L.set i (b, cs', t) = L')
    (h : ∀ w1, St B w0 L' w1 → w.grownBy w1 (some b) → wpList P ops Q rest (a.put o.dst undef) w1) : wpList P ops Q (o :: rest) a w := by
  refine wpList_plain hgd fun K hK => ?_
  subst hcs
  unfold Oper.wp execOp
  simp only [ho, hx, hy, Instr.storeAt, Instr.sureAddr, Sem.run_bind, Sem.run_pure, Result.andThen_ok, run_storeVar_part w b off t ty old v (st.at hL) hi hs h1, Oper.upon]
  exact hK _ _ (h _ (st.put hL _ hL') (grownBy_setRow w b _))

/-- A part of a row that is no row of the state stored. -/
theorem wpList_storePX (hgd : o.guard = none) (ty : TypeId) (x y : Operand) (ho : o.op = .store ty x y)
    (b off : Nat) (hx : a.eval x = .pointer (some ⟨b, off, none⟩)) (v : Value) (hy : a.eval y = v) (old : Array Value) (t : TypeId) (hrow : w.heap[b]? = some (.cells old t (0, 0)))
    (hi : (P.info? ty).map (·.size) = some v.cells.size) (hs : off + v.cells.size ≤ old.size) (h1 : ∀ u ∈ v.cells.toList, u.oneCell' = true)
    (cs' : Array Value) (hcs : putAt old off v = cs')
    (h : ∀ w1, w.grownBy w1 (some b) → w1.heap[b]? = some (.cells cs' t (0, 0)) → wpList P ops Q rest (a.put o.dst undef) w1) : wpList P ops Q (o :: rest) a w :=
  wpList_storeP (B := 0) (w0 := w) (L := [(b, old, t)]) ⟨Below.refl 0 w, Nat.zero_le _, fun p hp => by simp at hp; subst hp; exact ⟨Nat.zero_le _, hrow⟩, by simp⟩ hgd ty x y ho 0 b off hx v hy old t rfl hi hs h1 cs' hcs _ rfl
    fun w1 st hg => h w1 hg (st.at (i := 0) rfl)
end

/-! ### A proof -/
/-- The cells of a proof: kind, depth, leaf, bitmap, siblings. -/
def proofCells (kd dp : Int) (lf bm : List Nat) (s : Value) : Array Value := (.int .i64 kd :: .int .i64 dp :: (bcells lf ++ (bcells bm ++ [s]))).toArray
section
variable {kd dp : Int} {lf bm : List Nat} {s : Value}
theorem proofCells_size (hl : lf.length = 64) (hb : bm.length = 32) : (proofCells kd dp lf bm s).size = 99 := by simp [proofCells, bcells_len, hl, hb]
theorem proofCells_kind : (proofCells kd dp lf bm s)[0]? = some (.int .i64 kd) := rfl
theorem proofCells_depth : (proofCells kd dp lf bm s)[1]? = some (.int .i64 dp) := rfl
theorem proofCells_sib (hl : lf.length = 64) (hb : bm.length = 32) : (proofCells kd dp lf bm s)[98]? = some s := by
  have h1 : (bcells lf).length = 64 := by rw [bcells_len, hl]
  have h2 : (bcells bm).length = 32 := by rw [bcells_len, hb]
  unfold proofCells
  rw [List.getElem?_toArray]
  show (bcells lf ++ (bcells bm ++ [s]))[96]? = some s
  rw [List.getElem?_append_right (by omega), List.getElem?_append_right (by omega), h1, h2]
  rfl
theorem proofCells_one (hs : s.oneCell' = true) : ∀ u ∈ (proofCells kd dp lf bm s).toList, u.oneCell' = true := by
  intro u hu
  unfold proofCells at hu
  rw [List.toList_toArray] at hu
  simp only [List.mem_cons, List.mem_append, List.not_mem_nil, or_false] at hu
  rcases hu with rfl | rfl | hu | hu | rfl
  · rfl
  · rfl
  · exact kv_one lf u (by rw [kv_toList]; exact hu)
  · exact kv_one bm u (by rw [kv_toList]; exact hu)
  · exact hs
theorem proofCells_leaf (hl : lf.length = 64) : (proofCells kd dp lf bm s).extract 2 (2 + 64) = kv lf := by
  rw [← bcells_kv]
  exact extract_mid [.int .i64 kd, .int .i64 dp] (bcells lf) (bcells bm ++ [s]) 2 64 rfl (by rw [bcells_len, hl])
theorem proofCells_leafKey (hl : lf.length = 64) : (proofCells kd dp lf bm s).extract 2 (2 + 32) = kv (lf.take 32) := by
  rw [← bcells_kv]
  have h := extract_mid [.int .i64 kd, .int .i64 dp] (bcells (lf.take 32)) (bcells (lf.drop 32) ++ (bcells bm ++ [s])) 2 32 rfl (by rw [bcells_len, List.length_take]; omega)
  rw [← List.append_assoc (bcells (lf.take 32)), ← bcells_app, List.take_append_drop] at h
  exact h
theorem proofCells_leafVal (hl : lf.length = 64) : (proofCells kd dp lf bm s).extract 34 (34 + 32) = kv (lf.drop 32) := by
  rw [← bcells_kv]
  have h := extract_mid (.int .i64 kd :: .int .i64 dp :: bcells (lf.take 32)) (bcells (lf.drop 32)) (bcells bm ++ [s]) 34 32 (by simp [bcells_len]; omega) (by rw [bcells_len, List.length_drop]; omega)
  simp only [List.cons_append] at h
  rw [← List.append_assoc (bcells (lf.take 32)), ← bcells_app, List.take_append_drop] at h
  exact h
theorem proofCells_bm (hl : lf.length = 64) (hb : bm.length = 32) : (proofCells kd dp lf bm s).extract 66 (66 + 32) = kv bm := by
  rw [← bcells_kv]
  exact extract_mid (.int .i64 kd :: .int .i64 dp :: bcells lf) (bcells bm) [s] 66 32 (by simp [bcells_len, hl]) (by rw [bcells_len, hb])
theorem proofCells_putKind (x : Int) : putAt (proofCells kd dp lf bm s) 0 (.int .i64 x) = proofCells x dp lf bm s :=
  putAt_mid [] [.int .i64 kd] (.int .i64 dp :: (bcells lf ++ (bcells bm ++ [s]))) (.int .i64 x) 0 rfl rfl
theorem proofCells_putDepth (x : Int) : putAt (proofCells kd dp lf bm s) 1 (.int .i64 x) = proofCells kd x lf bm s :=
  putAt_mid [.int .i64 kd] [.int .i64 dp] (bcells lf ++ (bcells bm ++ [s])) (.int .i64 x) 1 rfl rfl
theorem proofCells_putLeaf (hl : lf.length = 64) (l : List Nat) (h : l.length = 64) : putAt (proofCells kd dp lf bm s) 2 (.agg (kv l)) = proofCells kd dp l bm s := by
  have e := putAt_mid [.int .i64 kd, .int .i64 dp] (bcells lf) (bcells bm ++ [s]) (.agg (kv l)) 2 rfl (by show _ = (kv l).size; rw [bcells_len, kv_size, hl, h])
  simp only [Value.cells, kv_toList] at e
  exact e
theorem proofCells_putBm (hl : lf.length = 64) (hb : bm.length = 32) (l : List Nat) (h : l.length = 32) : putAt (proofCells kd dp lf bm s) 66 (.agg (kv l)) = proofCells kd dp lf l s := by
  have e := putAt_mid (.int .i64 kd :: .int .i64 dp :: bcells lf) (bcells bm) [s] (.agg (kv l)) 66 (by simp [bcells_len, hl]) (by show _ = (kv l).size; rw [bcells_len, kv_size, hb, h])
  simp only [Value.cells, kv_toList] at e
  exact e
theorem proofCells_putKey (hl : lf.length = 64) (k : List Nat) (h : k.length = 32) : putAt (proofCells kd dp lf bm s) 2 (.agg (kv k)) = proofCells kd dp (k ++ lf.drop 32) bm s := by
  have e := putAt_mid [.int .i64 kd, .int .i64 dp] (bcells (lf.take 32)) (bcells (lf.drop 32) ++ (bcells bm ++ [s])) (.agg (kv k)) 2 rfl (by show _ = (kv k).size; rw [bcells_len, kv_size, h]; simp; omega)
  simp only [Value.cells, kv_toList] at e
  rw [← List.append_assoc (bcells (lf.take 32)), ← bcells_app, List.take_append_drop, ← List.append_assoc (bcells k), ← bcells_app] at e
  exact e
theorem proofCells_putVal (hl : lf.length = 64) (k : List Nat) (h : k.length = 32) : putAt (proofCells kd dp lf bm s) 34 (.agg (kv k)) = proofCells kd dp (lf.take 32 ++ k) bm s := by
  have e := putAt_mid (.int .i64 kd :: .int .i64 dp :: bcells (lf.take 32)) (bcells (lf.drop 32)) (bcells bm ++ [s]) (.agg (kv k)) 34 (by simp [bcells_len]; omega) (by show _ = (kv k).size; rw [bcells_len, kv_size, h]; simp; omega)
  simp only [Value.cells, kv_toList, List.cons_append] at e
  rw [← List.append_assoc (bcells (lf.take 32)), ← bcells_app, List.take_append_drop, ← List.append_assoc (bcells (lf.take 32)) (bcells k), ← bcells_app] at e
  exact e
theorem proofCells_putSib (hl : lf.length = 64) (hb : bm.length = 32) (x : Value) (hx : x.cells = #[x]) : putAt (proofCells kd dp lf bm s) 98 x = proofCells kd dp lf bm x := by
  have e := putAt_mid (.int .i64 kd :: .int .i64 dp :: (bcells lf ++ bcells bm)) [s] [] x 98 (by simp [bcells_len, hl, hb]) (by rw [hx]; rfl)
  simp only [hx, List.append_nil, List.cons_append, List.append_assoc] at e
  exact e
end

theorem zero64_eq : (List.replicate 64 0 : List Nat).length = 64 := List.length_replicate
theorem shapeProof : shapeZ Tryz.prog 43 = some (proofCells 0 0 (List.replicate 64 0) zero32 (.slice none 0 0), [(0, 1), (1, 1), (2, 64), (66, 32), (98, 1)]) := by kernel_rfl
theorem zeroProof : (Tryz.prog.info? 43).bind (·.zero) = some (.agg (proofCells 0 0 (List.replicate 64 0) zero32 (.slice none 0 0))) := by kernel_rfl
theorem sizeProof0 : (Tryz.prog.info? 43).map (·.size) = some 99 := by kernel_rfl
theorem sizeProofOf {c : Array Value} (h : c.size = 99) : (Tryz.prog.info? 43).map (·.size) = some c.size := by rw [h]; exact sizeProof0
theorem aggProof : ∃ d, Tryz.prog.underlying 43 = some d ∧ aggB d = true := by
  have h : (Tryz.prog.underlying 43).map aggB = some true := by kernel_rfl
  cases hq : Tryz.prog.underlying 43 with
  | none => rw [hq] at h; cases h
  | some d => rw [hq] at h; exact ⟨d, rfl, Option.some.inj h⟩

/-- Kind, depth and leaf laid. -/
theorem builtProof3 (kd dp : Int) (lf : List Nat) (hl : lf.length = 64) : Tryz.prog.built 43 [(0, .int .i64 kd), (1, .int .i64 dp), (2, .agg (kv lf))] = some (proofCells kd dp lf zero32 (.slice none 0 0)) := by
  have hk : (kv lf).size = 64 := by rw [kv_size, hl]
  rw [built_fill shapeProof, fill_put (off := 0) rfl (by rw [proofCells_size zero64_eq rfl]; simp [Value.cells]), proofCells_putKind, fill_put (off := 1) rfl (by rw [proofCells_size zero64_eq rfl]; simp [Value.cells]), proofCells_putDepth,
    fill_put (off := 2) (by simp [Value.cells, hk]) (by rw [proofCells_size zero64_eq rfl]; simp [Value.cells, hk]), proofCells_putLeaf zero64_eq _ hl]
  rfl
/-- Kind, depth and bitmap laid. -/
theorem builtProofB (kd dp : Int) (bm : List Nat) (hb : bm.length = 32) : Tryz.prog.built 43 [(0, .int .i64 kd), (1, .int .i64 dp), (3, .agg (kv bm))] = some (proofCells kd dp (List.replicate 64 0) bm (.slice none 0 0)) := by
  have hk : (kv bm).size = 32 := by rw [kv_size, hb]
  rw [built_fill shapeProof, fill_put (off := 0) rfl (by rw [proofCells_size zero64_eq rfl]; simp [Value.cells]), proofCells_putKind, fill_put (off := 1) rfl (by rw [proofCells_size zero64_eq rfl]; simp [Value.cells]), proofCells_putDepth,
    fill_put (off := 66) (by simp [Value.cells, hk]) (by rw [proofCells_size zero64_eq rfl]; simp [Value.cells, hk]), proofCells_putBm zero64_eq rfl _ hb]
  rfl
theorem builtProof0 : Tryz.prog.built 43 [] = some (proofCells 0 0 (List.replicate 64 0) zero32 (.slice none 0 0)) := by
  rw [built_fill shapeProof]; rfl

/-! ### Equality of leaves and digests -/
theorem eqlDig (a b : List Nat) (la : a.length = 32) (lb : b.length = 32) (w : World) :
    (Op.equalIn 10000 38 (.agg (kv a)) (.agg (kv b))).run Tryz.prog w = .ok (decide (a = b)) w :=
  run_equalIn_bytes w 9998 38 5 32 aggDig byteT sizeByte a b la lb
theorem kv_extract (l : List Nat) (off n : Nat) (_ : off + n ≤ l.length) : (kv l).extract off (off + n) = kv ((l.drop off).take n) := by
  rw [← bcells_kv, ← bcells_kv]
  apply Array.ext'
  simp [bcells, List.map_take, List.map_drop]
theorem run_part_agg {P : Program} (w : World) {t : TypeId} {d : TypeDesc} (hu : P.underlying t = some d) (hd : aggB d = true) {n : Nat} (hi : (P.info? t).map (·.size) = some n) (cs : Array Value) (off : Nat) :
    (part t cs off).run P w = .ok (.agg (cs.extract off (off + n))) w := by
  cases hq : P.info? t with
  | none => simp [hq] at hi
  | some i =>
    have hs : i.size = n := by simpa [hq] using hi
    have hagg : (isAgg t).run P w = .ok true w := by
      unfold isAgg
      rw [Sem.run_bind, run_underlying hu w]
      cases d <;> simp_all [aggB]
    simp [part, Sem.run_bind, hagg, sizeOf, typeInfo, hq, hs]
theorem fieldsLeaf : ((Tryz.prog.fieldsOf 40).toList.map fun f => (f.name == "_", f.type, f.offset)) = [(false, 37, 0), (false, 38, 32)] := by kernel_rfl
theorem descLeaf : Tryz.prog.underlying 40 = some (.struct (Tryz.prog.fieldsOf 40)) := by kernel_rfl
theorem stoodLeaf : Tryz.prog.stoodInHeld 40 = false := by kernel_rfl
theorem guardLeaf : Tryz.prog.eqGuardType Tryz.prog.depth 40 = false := by kernel_rfl
theorem guardDig : Tryz.prog.eqGuardType Tryz.prog.depth 38 = false := by kernel_rfl
theorem eqFields_two {P : Program} (w : World) (d : Nat) (xs ys : Array Value) {fs : List Field} {t1 t2 : TypeId} {o1 o2 : Nat} (h : (fs.map fun f => (f.name == "_", f.type, f.offset)) = [(false, t1, o1), (false, t2, o2)]) {x1 x2 y1 y2 : Value} {b1 b2 : Bool}
    (p1 : (part t1 xs o1).run P w = .ok x1 w) (q1 : (part t1 ys o1).run P w = .ok y1 w) (p2 : (part t2 xs o2).run P w = .ok x2 w) (q2 : (part t2 ys o2).run P w = .ok y2 w)
    (e1 : (Op.equalIn d t1 x1 y1).run P w = .ok b1 w) (e2 : (Op.equalIn d t2 x2 y2).run P w = .ok b2 w) : (Op.eqFields d xs ys fs).run P w = .ok (b1 && b2) w := by
  rcases fs with _ | ⟨f, _ | ⟨g, _ | ⟨_, _⟩⟩⟩
  · simp at h
  · simp at h
  · simp only [List.map_cons, List.map_nil, List.cons.injEq, Prod.mk.injEq, beq_eq_false_iff_ne, ne_eq, and_true] at h
    obtain ⟨⟨n1, rfl, rfl⟩, n2, rfl, rfl⟩ := h
    simp only [Op.eqFields, n1, n2, ne_eq, not_false_eq_true, if_true, Sem.run_bind, p1, q1, e1, Result.andThen_ok]
    cases b1
    · simp
    · simp [Sem.run_bind, p2, q2, e2]
      cases b2 <;> simp
  · simp at h
theorem eqlLeaf (a b : List Nat) (la : a.length = 64) (lb : b.length = 64) (w : World) :
    (Op.equalIn 10000 40 (.agg (kv a)) (.agg (kv b))).run Tryz.prog w = .ok (decide (a = b)) w := by
  rw [run_equalIn_struct w 9999 40 (kv a) (kv b) descLeaf stoodLeaf]
  obtain ⟨d1, hd1, hg1⟩ := aggKeyE
  obtain ⟨d2, hd2, hg2⟩ := aggDigE
  have ex : ∀ (l : List Nat) (off : Nat), l.length = 64 → off + 32 ≤ 64 → ((l.drop off).take 32).length = 32 := fun l off h h2 => by simp; omega
  rw [eqFields_two w 9999 (kv a) (kv b) fieldsLeaf (run_part_agg w hd1 hg1 sizeKey0 (kv a) 0) (run_part_agg w hd1 hg1 sizeKey0 (kv b) 0) (run_part_agg w hd2 hg2 sizeDig0 (kv a) 32) (run_part_agg w hd2 hg2 sizeDig0 (kv b) 32)
    (by rw [kv_extract a 0 32 (by omega), kv_extract b 0 32 (by omega)]; exact run_equalIn_bytes w 9997 37 5 32 aggKey byteT sizeByte _ _ (ex a 0 la (by omega)) (ex b 0 lb (by omega)))
    (by rw [kv_extract a 32 32 (by omega), kv_extract b 32 32 (by omega)]; exact run_equalIn_bytes w 9997 38 5 32 aggDig byteT sizeByte _ _ (ex a 32 la (by omega)) (ex b 32 lb (by omega)))]
  have hiff : (decide ((a.drop 0).take 32 = (b.drop 0).take 32) && decide ((a.drop 32).take 32 = (b.drop 32).take 32)) = decide (a = b) := by
    rw [← Bool.decide_and]
    apply decide_eq_decide.2
    constructor
    · rintro ⟨h1, h2⟩
      rw [← List.take_append_drop 32 a, ← List.take_append_drop 32 b]
      rw [List.drop_zero, List.drop_zero] at h1
      rw [List.take_of_length_le (by simp; omega), List.take_of_length_le (by simp; omega)] at h2
      rw [h1, h2]
    · rintro rfl
      exact ⟨rfl, rfl⟩
  rw [hiff]

end Go.Proofs.YtlcngapphloafaaGreatDoor
end

/- Package proof: Prove at a leaf. -/
section
open Go Go.RowKit
namespace Go.Proofs.YtlcngapphloafaaGreatDoor

theorem sizeArr0 : (Tryz.prog.info? 36).map (·.size) = some 32 := by kernel_rfl
theorem aggBmE : ∃ d, Tryz.prog.underlying 105 = some d ∧ aggB d = true := by
  have h : (Tryz.prog.underlying 105).map aggB = some true := by kernel_rfl
  cases hq : Tryz.prog.underlying 105 with
  | none => rw [hq] at h; cases h
  | some d => rw [hq] at h; exact ⟨d, rfl, Option.some.inj h⟩

set_option maxRecDepth 20000 in
set_option maxHeartbeats 1000000 in
theorem Prove_calls (hp : Value) (kk : List Nat) (hkk : kk.length = 32) (k vd : List Nat) (s : Value) (hs : s.oneCell' = true) (hk : k.length = 32) (hv : vd.length = 32) (nb : Nat) (w : World) (hn : w.cell? ⟨nb, 0, none⟩ = some (leafIface k vd s)) :
    Calls Tryz.prog 15 #[hp, .pointer (some ⟨nb, 0, none⟩), .agg (kv kk)] w fun e w' => e = .returned (.agg (proofCells 1 0 (k ++ vd) zero32 (.slice none 0 0))) ∧ Below w.heap.size w w' := by
  have HN := Lib.hid hn
  have Hlt := Lib.hid (block_lt_cell hn)
  have Hkk := Lib.hid hkk
  have HK := Lib.hid (fun wx (h : wx.cell? ⟨nb, 0, none⟩ = some (leafIface k vd s)) => KindLeaf_calls _ nb wx h)
  have HL := Lib.hid (fun wx h => LeafMLeaf_calls k vd s hs hk hv nb wx h)
  have H64 : Hid ((k ++ vd).length = 64) := by unfold Hid; simp [hk, hv]
  have HLoc := Lib.hid (fun wx (h : wx.cell? ⟨nb, 0, none⟩ = some (leafIface k vd s)) => Locate_calls (some ⟨nb, 0, none⟩) kk hkk 1 (by decide) wx fun wy hb => KindLeaf_calls _ nb wy ((hb.cell (block_lt_cell h)).trans h))
  have HSib := Lib.hid (fun wx (h : wx.cell? ⟨nb, 0, none⟩ = some (leafIface k vd s)) => Siblings_calls (some ⟨nb, 0, none⟩) kk hkk 1 (by decide) wx fun wy hb => KindLeaf_calls _ nb wy ((hb.cell (block_lt_cell h)).trans h))
  have HB := Lib.hid (builtProof3 1 0 (k ++ vd) H64.out)
  have HS1 : Hid ((proofCells 1 0 (k ++ vd) zero32 (.slice none 0 0)).size = 99) := proofCells_size H64.out rfl
  have HS0 : Hid ((proofCells 0 0 (List.replicate 64 0) zero32 (.slice none 0 0)).size = 99) := proofCells_size zero64_eq rfl
  have H1 : Hid (∀ u ∈ (proofCells 1 0 (k ++ vd) zero32 (.slice none 0 0)).toList, u.oneCell' = true) := proofCells_one rfl
  have HP : Hid (putAt (proofCells 1 0 (k ++ vd) zero32 (.slice none 0 0)) 66 (.agg (kv zero32)) = proofCells 1 0 (k ++ vd) zero32 (.slice none 0 0)) := proofCells_putBm H64.out rfl _ rfl
  have HZ := Lib.hid zeroProof
  clear hn hkk hs hk hv
  generalize leafIface k vd s = lfv at *
  generalize k ++ vd = lf at *
  generalize proofCells 1 0 lf zero32 (.slice none 0 0) = pc at *
  generalize proofCells 0 0 (List.replicate 64 0) zero32 (.slice none 0 0) = zc at *
  obtain ⟨dP, hdP, haP⟩ := aggProof
  have st := St.init w
  go_enter Tryz.func15, Tryz.ntmps15
  go_wp2_with (first
    | (refine wpList_boxA st rfl 37 _ rfl _ rfl ?_; intro b5 w1 st1; clear st)
    | (refine wpList_newA st1 rfl 43 rfl _ HZ.out ?_; intro b6 w2 st2; clear st1)
    | (refine wpList_loadR rfl 37 _ rfl b5 rfl _ aggKey rfl _ _ (st2.at (i := 1) rfl) (sizeKv Hkk.out) ?_)
    | (go_at_call 38; refine (HLoc.out _ ((st2.below.cell Hlt.out).trans HN.out)).mono ?_; rintro e w3 ⟨rfl, hbel⟩; have st3 := St.call st2 hbel; clear hbel st2)
    | (go_at_call 39; refine (HK.out _ ((st3.below.cell Hlt.out).trans HN.out)).mono ?_; rintro e w4 ⟨rfl, rfl⟩)
    | (go_at_call 40; refine (HL.out _ ((st3.below.cell Hlt.out).trans HN.out)).mono ?_; rintro e w4 ⟨rfl, hbel⟩; have st4 := St.call st3 hbel; clear hbel st3)
    | (refine wpList_build rfl 43 _ rfl [(0, .int .i64 1), (1, .int .i64 0), (2, .agg (kv lf))] ?_ _ HB.out ?_; (· (simp [Act.eval]; done)))
    | (refine wpList_newA st4 rfl 43 rfl _ HZ.out ?_; intro b9 w5 st5; clear st4)
    | (refine wpList_storeR st5 rfl 43 _ _ rfl 0 b9 rfl (.agg pc) rfl _ _ rfl (sizeProofOf HS1.out) (by show pc.size = _; rw [HS1.out, HS0.out]) H1.out _ rfl ?_; intro w6 st6; clear st5)
    | (refine wpList_newA st6 rfl 105 rfl _ zeroBm ?_; intro b10 w7 st7; clear st6)
    | (refine wpList_loadR rfl 37 _ rfl b5 rfl _ aggKey rfl _ _ (st7.at (i := 3) rfl) (sizeKv Hkk.out) ?_)
    | (go_at_call 41; refine (HSib.out _ ((st7.below.cell Hlt.out).trans HN.out)).mono ?_; rintro e w8 ⟨rfl, hbel⟩; have st8 := St.call st7 hbel; clear hbel st7))
  have st9 : St w.heap.size w [(b10, kv zero32, 105), (b9, pc, 43), (b6, zc, 43), (b5, kv kk, 37)] w8 := st8
  clear st8
  go_loopw [29] (fun i wr => i = .int .i64 0 ∧ St w.heap.size w [(b10, kv zero32, 105), (b9, pc, 43), (b6, zc, 43), (b5, kv kk, 37)] wr) (fun _ _ => 0)
  case atStart => exact ⟨rfl, st9⟩
  case round =>
    obtain ⟨rfl, st10⟩ := hrel
    clear st9
    go_wp2_with (first
      | (refine wpList_loadR rfl 105 _ rfl b10 rfl _ aggBmE.choose_spec.1 aggBmE.choose_spec.2 _ _ (st10.at (i := 0) rfl) sizeBm0 ?_)
      | (refine wpList_storeP st10 rfl 36 _ _ rfl 1 b9 66 rfl (.agg (kv zero32)) rfl _ _ rfl sizeArr0 (by rw [HS1.out]; decide) (kv_one _) _ HP.out _ rfl ?_; intro w11 st11 _; clear st10)
      | (refine wpList_loadR rfl 43 _ rfl b9 rfl _ hdP haP _ _ (st11.at (i := 1) rfl) (sizeProofOf HS1.out) ?_)
      | (refine wpList_storeR st11 rfl 43 _ _ rfl 2 b6 rfl (.agg pc) rfl _ _ rfl (sizeProofOf HS1.out) (by show pc.size = _; rw [HS1.out, HS0.out]) H1.out _ rfl ?_; intro w12 st12; clear st11))
    exact ret_row rfl b6 _ _ _ rfl (st12.at (i := 2) rfl) hdP haP (sizeProofOf HS1.out) rfl ⟨rfl, st12.below⟩

end Go.Proofs.YtlcngapphloafaaGreatDoor
end

/- Package proof: the rules of a well-formed proof, each. -/
section
open Go Go.RowKit
namespace Go.Proofs.YtlcngapphloafaaGreatDoor
attribute [local irreducible] Inv.wpInv Mix.wpUp

set_option maxRecDepth 20000 in
set_option maxHeartbeats 1000000 in
theorem rule1_calls (kd dp : Int) (lf bm bm' : List Nat) (s : Value) (w : World) :
    Calls Tryz.prog 106 #[.agg (proofCells kd dp lf bm s), .agg (kv bm')] w fun e w' => e = .returned (.bool (kd == 0 || kd == 1)) ∧ Below w.heap.size w w' := by
  have H0 : Hid ((proofCells kd dp lf bm s)[0]? = some (.int .i64 kd)) := proofCells_kind
  generalize proofCells kd dp lf bm s = pc at *
  generalize kv bm' = kb at *
  have st := St.init w
  go_enter Tryz.func106, Tryz.ntmps106
  go_wp2_with (first
    | (refine wpList_boxA st rfl 43 _ rfl pc rfl ?_; intro b2 w1 st1; clear st)
    | (refine wpList_boxA st1 rfl 105 _ rfl kb rfl ?_; intro b3 w2 st2; clear st1; have hc := (st2.cell (i := 1) rfl 0).trans H0.out))
  all_goals (go_ret; refine ⟨?_, st2.below⟩; first | rfl | (simp; done) | (simp; omega) | (simp [*]; done))

set_option maxRecDepth 20000 in
set_option maxHeartbeats 1000000 in
theorem rule2_calls (kd dp : Int) (lf bm bm' : List Nat) (s : Value) (w : World) :
    Calls Tryz.prog 107 #[.agg (proofCells kd dp lf bm s), .agg (kv bm')] w fun e w' => e = .returned (.bool (decide (0 ≤ dp) && decide (dp ≤ 256))) ∧ Below w.heap.size w w' := by
  have H0 : Hid ((proofCells kd dp lf bm s)[1]? = some (.int .i64 dp)) := proofCells_depth
  generalize proofCells kd dp lf bm s = pc at *
  generalize kv bm' = kb at *
  have st := St.init w
  go_enter Tryz.func107, Tryz.ntmps107
  go_wp2_with (first
    | (refine wpList_boxA st rfl 43 _ rfl pc rfl ?_; intro b2 w1 st1; clear st)
    | (refine wpList_boxA st1 rfl 105 _ rfl kb rfl ?_; intro b3 w2 st2; clear st1; have hc := (st2.cell (i := 1) rfl 1).trans H0.out))
  all_goals (go_ret; refine ⟨?_, st2.below⟩; first | rfl | (simp; done) | (simp; omega) | (simp [*]; done))

theorem builtLeaf0 : Tryz.prog.built 40 [] = some (kv (List.replicate 64 0)) := by kernel_rfl

set_option maxRecDepth 20000 in
set_option maxHeartbeats 1000000 in
theorem rule3_calls (kd dp : Int) (lf bm bm' : List Nat) (s : Value) (hl : lf.length = 64) (hb : bm.length = 32) (w : World) :
    Calls Tryz.prog 108 #[.agg (proofCells kd dp lf bm s), .agg (kv bm')] w fun e w' => e = .returned (.bool (kd == 1 || decide (lf = List.replicate 64 0))) ∧ Below w.heap.size w w' := by
  have H0 : Hid ((proofCells kd dp lf bm s)[0]? = some (.int .i64 kd)) := proofCells_kind
  have HS : Hid ((proofCells kd dp lf bm s).size = 99) := proofCells_size hl hb
  have HE := Lib.hid (proofCells_leaf (kd := kd) (dp := dp) (bm := bm) (s := s) hl)
  have HB := Lib.hid builtLeaf0
  have hq := eqlLeaf lf (List.replicate 64 0) hl zero64_eq
  have hg := guardLeaf
  generalize proofCells kd dp lf bm s = pc at *
  generalize kv bm' = kb at *
  generalize kv lf = lv at *
  generalize kv (List.replicate 64 0) = zl at *
  have st := St.init w
  cases hk1 : (kd == 1)
  · go_enter Tryz.func108, Tryz.ntmps108
    go_wp2_with (first
      | (refine wpList_boxA st rfl 43 _ rfl pc rfl ?_; intro b2 w1 st1; clear st)
      | (refine wpList_boxA st1 rfl 105 _ rfl kb rfl ?_; intro b3 w2 st2; clear st1; have hc := (st2.cell (i := 1) rfl 0).trans H0.out)
      | (refine wpList_loadP rfl 40 _ rfl b2 2 64 rfl aggLeaf _ _ _ (st2.at (i := 1) rfl) sizeLeaf0 (by rw [HS.out]; simp) _ HE.out ?_)
      | (refine wpList_build rfl 40 _ rfl [] ?_ _ HB.out ?_; (· (simp [Act.eval]; done))))
    go_ret
    refine ⟨?_, st2.below⟩
    first | rfl | (simp; done) | (simp; omega) | (simp [*]; done)
  · go_enter Tryz.func108, Tryz.ntmps108
    go_wp2_with (first
      | (refine wpList_boxA st rfl 43 _ rfl pc rfl ?_; intro b2 w1 st1; clear st)
      | (refine wpList_boxA st1 rfl 105 _ rfl kb rfl ?_; intro b3 w2 st2; clear st1; have hc := (st2.cell (i := 1) rfl 0).trans H0.out))
    go_ret
    refine ⟨?_, st2.below⟩
    first | rfl | (simp; done) | (simp; omega) | (simp [*]; done)

set_option maxRecDepth 20000 in
set_option maxHeartbeats 1000000 in
theorem rule4_calls (kd dp : Int) (lf bm bm' : List Nat) (s : Value) (hk : Key bm') (h0 : 0 ≤ dp) (h1 : dp ≤ 256) (w : World) :
    Calls Tryz.prog 109 #[.agg (proofCells kd dp lf bm s), .agg (kv bm')] w fun e w' => e = .returned (.bool (lastI bm' == dp - 1)) ∧ Below w.heap.size w w' := by
  have H0 : Hid ((proofCells kd dp lf bm s)[1]? = some (.int .i64 dp)) := proofCells_depth
  have Hk := Lib.hid hk.len
  have HL := Lib.hid (Last_calls bm' hk)
  clear hk
  generalize proofCells kd dp lf bm s = pc at *
  have st := St.init w
  go_enter Tryz.func109, Tryz.ntmps109
  go_wp2_with (first
    | (refine wpList_boxA st rfl 43 _ rfl pc rfl ?_; intro b2 w1 st1; clear st)
    | (refine wpList_boxA st1 rfl 105 _ rfl (kv bm') rfl ?_; intro b3 w2 st2; clear st1))
  refine region_inv 6 st2 mixed (by kernel_rfl) ?_
  intro I hI hI'
  have q : ∀ wx, I wx → wx.cell? ⟨b2, 1, none⟩ = some (.int .i64 dp) := fun wx hw => ((hI wx hw).cell (i := 1) rfl 1).trans H0.out
  simp only [List.take_succ_cons, List.take_zero, List.drop_succ_cons, List.drop_zero]
  (refine Inv.wpInv_step (fun K hK => ?_); go_simp; refine inv_loadR 105 _ rfl b3 rfl _ aggBm rfl _ _ (fun wx hw => (hI wx hw).at (i := 0) rfl) (sizeBm Hk.out) ?_
   refine hK _ ?_; clear hK K)
  (refine Inv.wpInv_step (fun K hK => ?_); go_simp; refine inv_call hI hI' 110 #[.agg (kv bm')] ?_ (fun wx stx => HL.out wx) ?_; · (intro wx hw; go_simp)
   refine hK _ ?_; clear hK K)
  iterate 4
    (refine Inv.wpInv_step (fun K hK => ?_); go_simp; apply inv_run; · (intro wx hw; have q1 := q wx hw; go_simp; (try go_ints); (try go_simp); (try (rw [if_pos (by omega)])); (try go_simp); (first | done | rfl))
     refine hK _ ?_; clear hK K)
  refine Inv.wpInv_nil ?_
  clear q hI hI' st2
  intro w6 st6
  go_wp2
  go_ret
  exact ⟨rfl, st6.below⟩

set_option maxRecDepth 20000 in
set_option maxHeartbeats 1000000 in
theorem rule5_calls (kd dp : Int) (lf bm bm' : List Nat) (a : Option Addr) (n c : Nat) (hl : lf.length = 64) (hb : bm.length = 32) (hk : Key bm') (w : World) :
    Calls Tryz.prog 111 #[.agg (proofCells kd dp lf bm (.slice a n c)), .agg (kv bm')] w fun e w' => e = .returned (.bool (((lenN bm' : Nat) : Int) == (n : Int))) ∧ Below w.heap.size w w' := by
  have H0 : Hid ((proofCells kd dp lf bm (.slice a n c))[98]? = some (.slice a n c)) := proofCells_sib hl hb
  have Hk := Lib.hid hk.len
  have HL := Lib.hid (Len_calls bm' hk)
  clear hk
  generalize proofCells kd dp lf bm (.slice a n c) = pc at *
  have st := St.init w
  go_enter Tryz.func111, Tryz.ntmps111
  go_wp2_with (first
    | (refine wpList_boxA st rfl 43 _ rfl pc rfl ?_; intro b2 w1 st1; clear st)
    | (refine wpList_boxA st1 rfl 105 _ rfl (kv bm') rfl ?_; intro b3 w2 st2; clear st1))
  refine region_inv 6 st2 mixed (by kernel_rfl) ?_
  intro I hI hI'
  have q : ∀ wx, I wx → wx.cell? ⟨b2, 98, none⟩ = some (.slice a n c) := fun wx hw => ((hI wx hw).cell (i := 1) rfl 98).trans H0.out
  simp only [List.take_succ_cons, List.take_zero, List.drop_succ_cons, List.drop_zero]
  (refine Inv.wpInv_step (fun K hK => ?_); go_simp; refine inv_loadR 105 _ rfl b3 rfl _ aggBm rfl _ _ (fun wx hw => (hI wx hw).at (i := 0) rfl) (sizeBm Hk.out) ?_
   refine hK _ ?_; clear hK K)
  (refine Inv.wpInv_step (fun K hK => ?_); go_simp; refine inv_call hI hI' 112 #[.agg (kv bm')] ?_ (fun wx stx => HL.out wx) ?_; · (intro wx hw; go_simp)
   refine hK _ ?_; clear hK K)
  iterate 4
    (refine Inv.wpInv_step (fun K hK => ?_); go_simp; apply inv_run; · (intro wx hw; have q1 := q wx hw; go_simp; (try go_ints); (try go_simp); (try (rw [if_pos (by omega)])); (try go_simp); (first | done | rfl))
     refine hK _ ?_; clear hK K)
  refine Inv.wpInv_nil ?_
  clear q hI hI' st2
  intro w6 st6
  go_wp2
  go_ret
  exact ⟨rfl, st6.below⟩

end Go.Proofs.YtlcngapphloafaaGreatDoor
end

/- Package proof: the rules together, and Check. -/
section
open Go Go.RowKit
namespace Go.Proofs.YtlcngapphloafaaGreatDoor
attribute [local irreducible] Inv.wpInv Mix.wpUp

/-- The cells of a rule, and of the five. -/
def ruleC (f : Nat) (e : Int) : Array Value := #[.func (.func f) #[] #[], .int .i64 e]
def rulesCells : Array Value := #[.func (.func 106) #[] #[], .int .i64 7, .func (.func 107) #[] #[], .int .i64 5, .func (.func 108) #[] #[], .int .i64 5, .func (.func 109) #[] #[], .int .i64 5, .func (.func 111) #[] #[], .int .i64 5]
theorem zeroRules : (Tryz.prog.info? 153).bind (·.zero) = some (.agg #[.nilFunc, .int .i64 0, .nilFunc, .int .i64 0, .nilFunc, .int .i64 0, .nilFunc, .int .i64 0, .nilFunc, .int .i64 0]) := by kernel_rfl
theorem zeroRule : (Tryz.prog.info? 152).bind (·.zero) = some (.agg #[.nilFunc, .int .i64 0]) := by kernel_rfl
theorem sizeRule : (Tryz.prog.info? 152).map (·.size) = some 2 := by kernel_rfl
theorem sizeRules : (Tryz.prog.info? 153).map (·.size) = some 10 := by kernel_rfl
theorem aggRules : ∃ d, Tryz.prog.underlying 153 = some d ∧ aggB d = true := by
  have h : (Tryz.prog.underlying 153).map aggB = some true := by kernel_rfl
  cases hq : Tryz.prog.underlying 153 with
  | none => rw [hq] at h; cases h
  | some d => rw [hq] at h; exact ⟨d, rfl, Option.some.inj h⟩
theorem builtRule1 : Tryz.prog.built 152 [(0, .func (.func 106) #[] #[]), (1, .int .i64 7)] = some (ruleC 106 7) := by kernel_rfl
theorem builtRule2 : Tryz.prog.built 152 [(0, .func (.func 107) #[] #[]), (1, .int .i64 5)] = some (ruleC 107 5) := by kernel_rfl
theorem builtRule3 : Tryz.prog.built 152 [(0, .func (.func 108) #[] #[]), (1, .int .i64 5)] = some (ruleC 108 5) := by kernel_rfl
theorem builtRule4 : Tryz.prog.built 152 [(0, .func (.func 109) #[] #[]), (1, .int .i64 5)] = some (ruleC 109 5) := by kernel_rfl
theorem builtRule5 : Tryz.prog.built 152 [(0, .func (.func 111) #[] #[]), (1, .int .i64 5)] = some (ruleC 111 5) := by kernel_rfl
theorem builtRules : Tryz.prog.built 153 [(0, .agg (ruleC 106 7)), (1, .agg (ruleC 107 5)), (2, .agg (ruleC 108 5)), (3, .agg (ruleC 109 5)), (4, .agg (ruleC 111 5))] = some rulesCells := by kernel_rfl

set_option maxRecDepth 20000 in
set_option maxHeartbeats 1000000 in
theorem rules_calls (w : World) : Calls Tryz.prog 63 #[] w fun e w' => e = .returned (.agg rulesCells) ∧ Below w.heap.size w w' := by
  have st := St.init w
  go_enter Tryz.func63, Tryz.ntmps63
  go_wp2_with (first
    | (refine wpList_newA st rfl 153 rfl _ zeroRules ?_; intro b0 w1 st1; clear st)
    | (refine wpList_build rfl 152 _ rfl _ rfl _ builtRule1 ?_)
    | (refine wpList_build rfl 152 _ rfl _ rfl _ builtRule2 ?_)
    | (refine wpList_build rfl 152 _ rfl _ rfl _ builtRule3 ?_)
    | (refine wpList_build rfl 152 _ rfl _ rfl _ builtRule4 ?_)
    | (refine wpList_build rfl 152 _ rfl _ rfl _ builtRule5 ?_)
    | (refine wpList_build rfl 153 _ rfl _ rfl _ builtRules ?_)
    | (refine wpList_storeR st1 rfl 153 _ _ rfl 0 b0 rfl (.agg rulesCells) rfl _ _ rfl sizeRules rfl (by decide) _ rfl ?_; intro w2 st2; clear st1))
  obtain ⟨dR, hdR, haR⟩ := aggRules
  exact ret_row rfl b0 _ _ _ rfl (st2.at (i := 0) rfl) hdR haR sizeRules rfl ⟨rfl, st2.below⟩

/-- What Check answers. -/
def checkF (kd dp : Int) (lf bm : List Nat) (n : Nat) : Int :=
  if (kd == 0 || kd == 1) = false then 7 else if (decide (0 ≤ dp) && decide (dp ≤ 256)) = false then 5 else if (kd == 1 || decide (lf = List.replicate 64 0)) = false then 5
  else if (lastI bm == dp - 1) = false then 5 else if (((lenN bm : Nat) : Int) == (n : Int)) = false then 5 else 0

end Go.Proofs.YtlcngapphloafaaGreatDoor
end
