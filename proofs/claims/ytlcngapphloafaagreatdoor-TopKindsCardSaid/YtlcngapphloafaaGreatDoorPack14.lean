/- Parts of the proof that are used by the claim: Way, Locate, Siblings, Tree1. No condition is added here. -/
import Derived.Test.YtlcngapphloafaaGreatDoorPack13

/- Package find: the way from a node that is no inner one. -/
section
open Go Go.RowKit
namespace Go.Proofs.YtlcngapphloafaaGreatDoor
attribute [local go_sem] Oper.semAt_some

theorem way_calls (p : Option Addr) (k : List Nat) (w : World) :
    Calls Tryz.prog 76 #[.pointer p, .agg (kv k)] w fun e w' => ∃ Bn Bk, e = .returned (.func (.func 122) #[] #[.pointer (some ⟨Bn, 0, none⟩), .pointer (some ⟨Bk, 0, none⟩)]) ∧
      St w.heap.size w [(Bk, kv k, 37), (Bn, #[.pointer p], 59)] w' := by
  have st := St.init w
  go_enter Tryz.func76, Tryz.ntmps76
  go_wp2_with (first
    | (refine wpList_boxA (by assumption) rfl 37 _ rfl _ rfl ?_; intro b2 w2 st2; clear st1)
    | (refine wpList_box st rfl 59 _ rfl (.pointer p) rfl ?_; intro b1 w1 st1; clear st))
  go_ret
  exact ⟨_, _, rfl, st2⟩

set_option maxRecDepth 100000 in
set_option maxHeartbeats 2000000 in
theorem way1_in (n : Nat) (l Bn Bk : Nat) (p : Option Addr) (kk : Int) (hkk : kk ≠ 2) (Good : World → Prop) (hcell : ∀ wx, Good wx → wx.cell? ⟨Bn, 0, none⟩ = some (.pointer p))
    (hKind : ∀ wx, Good wx → Calls Tryz.prog 39 #[.pointer p] wx fun e w' => e = .returned (.int .i64 kk) ∧ w' = wx) (Kp : World → World → Prop) (hKp : ∀ A B, Kp A B → Good A → Good B) (hn : 1 ≤ n) (J Jx : List Unit → World → Prop)
    (hY : ∀ pre x W, J pre W → pre.length < 1 → YieldAt Fence.wide (n - 1) Tryz.prog l #[.int .i64 0, .pointer p] W fun e W' =>
      (e = .returned (.bool true) ∧ J (pre ++ [x]) W' ∧ Kp W W') ∨ (e = .returned (.bool false) ∧ Jx (pre ++ [x]) W'))
    (W : World) (hG : Good W) (h0 : J [] W) :
    CallsIn Fence.wide n Tryz.prog 122 #[.func (.yield l) #[] #[], .pointer (some ⟨Bn, 0, none⟩), .pointer (some ⟨Bk, 0, none⟩)] W fun e W' => (∃ v, e = .returned v) ∧
      ((∃ ys, ys = [()] ∧ J ys W') ∨ (∃ pre, Jx pre W')) := by
  have HK := Lib.hid hKind
  clear hKind
  refine callsIn_of_wp Tryz.func122 rfl trivial ?_ rfl
  simp only [Tryz.ntmps122, List.size_toArray, List.length_cons, List.length_nil, Nat.reduceAdd, Nat.reduceSub, Array.replicate_succ, Array.replicate_zero, List.push_toArray, List.append_toArray, List.nil_append, List.cons_append]
  gi_wp2
  gi_loopw [4] (fun i wr => i = .int .i64 0 ∧ Good wr ∧ J [] wr) (fun _ _ => 0)
  case atStart => exact ⟨rfl, hG, h0⟩
  case round =>
    obtain ⟨rfl, hGs, hJs⟩ := hrel
    have hc := hcell wr hGs
    obtain ⟨fn, tmps, assign, body, hy, hR⟩ := hY [] () wr hJs (by decide)
    gi_wp2
    refine hR.mono ?_
    rintro e W3 (⟨rfl, hJ3, hk3⟩ | ⟨rfl, hJx3⟩)
    · have hG3 := hKp _ _ hk3 hGs
      have hc3 := hcell _ hG3
      clear hc
      gi_wp2_with (first
        | (refine And.intro trivial ?_; gi_at_call 39; refine (callsIn_wide.2 (HK.out _ hG3)).mono ?_; rintro e w4 ⟨rfl, rfl⟩))
      go_end0
      exact ⟨⟨_, rfl⟩, .inl ⟨_, rfl, hJ3⟩⟩
    · gi_wp2_with (first | (refine And.intro trivial ?_))
      go_end0
      exact ⟨⟨_, rfl⟩, .inr ⟨_, hJx3⟩⟩

/-- The iterator over the way of a node that is no inner one: that node alone. -/
theorem way_stops (n : Nat) (hn : 1 ≤ n) (Bn Bk : Nat) (p : Option Addr) (kk : Int) (hkk : kk ≠ 2) (Good : World → Prop) (hcell : ∀ wx, Good wx → wx.cell? ⟨Bn, 0, none⟩ = some (.pointer p))
    (hKind : ∀ wx, Good wx → Calls Tryz.prog 39 #[.pointer p] wx fun e w' => e = .returned (.int .i64 kk) ∧ w' = wx) (Kp : World → World → Prop) (hKp : ∀ A B, Kp A B → Good A → Good B) (w : World)
    (hG : ∀ W, Below w.heap.size w W → Good W) :
    SeqStopsK Fence.wide n Tryz.prog 122 #[.pointer (some ⟨Bn, 0, none⟩), .pointer (some ⟨Bk, 0, none⟩)] (fun _ : Unit => #[Value.int .i64 0, .pointer p]) Kp (fun ys => ys = [()]) (fun _ => True) 1 w := fun l J Jx W hW _ _ hY h0 => by
  refine (way1_in n l Bn Bk p kk hkk Good hcell hKind Kp hKp hn J Jx hY W (hG W hW) h0).mono ?_
  rintro e W' ⟨he, ⟨ys, rfl, hj⟩ | ⟨pre, hj⟩⟩
  · exact ⟨he, .inl ⟨_, rfl, hj⟩⟩
  · exact ⟨he, .inr ⟨_, trivial, hj⟩⟩

end Go.Proofs.YtlcngapphloafaaGreatDoor
end

/- Package find: Locate at a node that is no inner one. -/
section
open Go Go.RowKit
namespace Go.Proofs.YtlcngapphloafaaGreatDoor
attribute [local go_sem] Oper.semAt_some

theorem zeroPN : (Tryz.prog.info? 59).bind (·.zero) = some (.pointer none) := by kernel_rfl
theorem sizePN : (Tryz.prog.info? 59).map (·.size) = some 1 := by kernel_rfl
theorem zeroI64 : (Tryz.prog.info? 3).bind (·.zero) = some (.int .i64 0) := by kernel_rfl

section
variable {P : Program} {o : Oper} {a : Act}
/-- A store that keeps what is known of the world, in a region that draws. -/
theorem inv_storeC {I : World → Prop} (ty : TypeId) (x y : Operand) (ho : o.op = .store ty x y) (b j : Nat) (hx : a.eval x = .pointer (some ⟨b, j, none⟩)) (v : Value) (hy : a.eval y = v)
    (hi : (P.info? ty).map (·.size) = some 1) (hv : v.cells = #[v]) (h1 : v.oneCell' = true) (hI : ∀ w, I w → (∃ c, w.cell? ⟨b, j, none⟩ = some c) ∧ w.frozen? ⟨b, j, none⟩ = false ∧ I (w.setCell ⟨b, j, none⟩ v)) : ∃ u, Inv.OpInv P I o a u := by
  refine ⟨undef, fun w hw => ?_⟩
  obtain ⟨⟨c, hc⟩, hfr, hIw⟩ := hI w hw
  cases hq : P.info? ty with
  | none => simp [hq] at hi
  | some inf =>
    have hsz : inf.size = 1 := by simpa [hq] using hi
    have hst : (storeCells ⟨b, j, none⟩ [v]).run P w = .ok () (w.setCell ⟨b, j, none⟩ v) := by
      have hadd : (⟨b, j, none⟩ : Addr).add 0 = ⟨b, j, none⟩ := by simp [Addr.add]
      simp only [storeCells, Sem.run_bind, hadd]
      rw [run_store P w _ v _ h1, hc]
      simp [hfr]
    have hsv : (storeVar ty ⟨b, j, none⟩ v).run P w = .ok () (w.setCell ⟨b, j, none⟩ v) := by
      simp [storeVar, Sem.run_bind, sizeOf, typeInfo, hq, hsz, hv, hst]
    unfold execOp
    simp only [ho, hx, hy, Instr.storeAt, Instr.sureAddr, Sem.run_bind, Sem.run_pure, Result.andThen_ok, hsv]
    exact ⟨rfl, hIw⟩
end

/-- The rows of a call and of one that it made. -/
theorem St.join {B : Nat} {w0 w w' : World} {L L' : List (Nat × Array Value × TypeId)} (st : St B w0 L w) (st' : St w.heap.size w L' w') : St B w0 (L' ++ L) w' := by
  have h := st.call st'.below
  refine ⟨h.below, h.size, fun q hq => ?_, ?_⟩
  · rcases List.mem_append.1 hq with hq | hq
    · exact ⟨Nat.le_trans st.size (st'.rows q hq).1, (st'.rows q hq).2⟩
    · exact h.rows q hq
  · rw [List.map_append, List.nodup_append]
    refine ⟨st'.nodup, h.nodup, fun a ha b hb e => ?_⟩
    obtain ⟨q, hq, rfl⟩ := List.mem_map.1 ha
    obtain ⟨r, hr, rfl⟩ := List.mem_map.1 hb
    have h1 := (st'.rows q hq).1
    have h2 := heap_lt (st.rows r hr).2
    omega

theorem results_cells2 {P : Program} {fn : Func} {p q : Tmp} {t u : TypeId} (h : fn.results = #[.cell p t, .cell q u]) {tmps : Array Value} {w : World} (a b : Addr) (ha : tmps.getD p undef = .pointer (some a)) (hb : tmps.getD q undef = .pointer (some b))
    {x y : Value} (hx : (loadVar t a).run P w = .ok x w) (hy : (loadVar u b).run P w = .ok y w) : (results fn tmps).run P w = .ok (.tuple #[x, y]) w := by
  have ha' : tmps[p]?.getD undef = .pointer (some a) := by simpa using ha
  have hb' : tmps[q]?.getD undef = .pointer (some b) := by simpa using hb
  simp [results, h, ha', hb', asAddr, hx, hy]
theorem run_loadVar_one {P : Program} {t : TypeId} {a : Addr} {w : World} {v : Value} (hag : ∃ d, P.underlying t = some d ∧ aggB d = false) (hc : w.cell? a = some v) : (loadVar t a).run P w = .ok v w := by
  obtain ⟨d, hu, hd⟩ := hag
  have hagg : (isAgg t).run P w = .ok false w := by
    unfold isAgg
    rw [Sem.run_bind, run_underlying hu w]
    cases d <;> simp_all [aggB]
  simp [loadVar, Sem.run_bind, hagg, run_load, hc]
theorem aggPN : ∃ d, Tryz.prog.underlying 59 = some d ∧ aggB d = false := by
  have h : (Tryz.prog.underlying 59).map aggB = some false := by kernel_rfl
  cases hq : Tryz.prog.underlying 59 with
  | none => rw [hq] at h; cases h
  | some d => rw [hq] at h; exact ⟨d, rfl, Option.some.inj h⟩
theorem aggI64 : ∃ d, Tryz.prog.underlying 3 = some d ∧ aggB d = false := by
  have h : (Tryz.prog.underlying 3).map aggB = some false := by kernel_rfl
  cases hq : Tryz.prog.underlying 3 with
  | none => rw [hq] at h; cases h
  | some d => rw [hq] at h; exact ⟨d, rfl, Option.some.inj h⟩

set_option maxRecDepth 100000 in
set_option maxHeartbeats 4000000 in
theorem Locate_calls (p : Option Addr) (k : List Nat) (hk : k.length = 32) (kk : Int) (hkk : kk ≠ 2) (w : World)
    (hKind : ∀ wx, Below w.heap.size w wx → Calls Tryz.prog 39 #[.pointer p] wx fun e w' => e = .returned (.int .i64 kk) ∧ w' = wx) :
    Calls Tryz.prog 38 #[.pointer p, .agg (kv k)] w fun e w' => e = .returned (.tuple #[.pointer p, .int .i64 0]) ∧ Below w.heap.size w w' := by
  have HK := Lib.hid hKind
  have Hk := Lib.hid hk
  clear hKind hk
  have st := St.init w
  refine (callsIn_wide (n := 3)).1 ?_
  refine callsIn_of_wp_marks Tryz.func38 rfl trivial ?_ rfl
  simp only [Tryz.ntmps38, List.size_toArray, List.length_cons, List.length_nil, Nat.reduceAdd, Nat.reduceSub, Array.replicate_succ, Array.replicate_zero, List.push_toArray, List.append_toArray, List.nil_append, List.cons_append]
  refine wpIn_wide.2 ?_
  go_wp2_with (first
    | (refine wpList_boxA st rfl 37 _ rfl _ rfl ?_; intro b3 w1 st1; clear st)
    | (refine wpList_new st1 rfl 59 rfl _ zeroPN ?_; intro b4 w2 st2; clear st1)
    | (refine wpList_new st2 rfl 3 rfl _ zeroI64 ?_; intro b5 w3 st3; clear st2)
    | (refine wpList_loadR rfl 37 _ rfl b3 rfl _ aggKey rfl _ _ (st3.at (i := 2) rfl) (sizeKv Hk.out) ?_)
    | (go_at_call 76; refine (way_calls p k _).mono ?_; rintro e w4 ⟨Bn, Bk, rfl, stw⟩))
  have st5 : St w.heap.size w ((Bk, kv k, 37) :: (Bn, #[.pointer p], 59) :: (b5, #[.int .i64 0], 3) :: (b4, #[.pointer none], 59) :: (b3, kv k, 37) :: []) w4 := st3.join stw
  clear st3 stw
  have hb4 : b4 < w4.heap.size := heap_lt (st5.at (i := 3) rfl)
  have hb5 : b5 < w4.heap.size := heap_lt (st5.at (i := 2) rfl)
  have hBn : Bn < w4.heap.size := heap_lt (st5.at (i := 1) rfl)
  have hcn : w4.cell? ⟨Bn, 0, none⟩ = some (.pointer p) := st5.cell (i := 1) rfl 0
  have hbase := st5.size
  have hbel5 := st5.below
  refine wpIn_wide.1 (wpIn_rangeFunc_ownG (F := Fence.wide) (n := 3) rfl (by omega) (gf := 122) (lb := #[.pointer (some ⟨Bn, 0, none⟩), .pointer (some ⟨Bk, 0, none⟩)]) rfl trivial (enters_of Tryz.func122 (by kernel_rfl) rfl)
    (way_stops 2 (by omega) Bn Bk p kk hkk (fun wx => Below w.heap.size w wx ∧ wx.cell? ⟨Bn, 0, none⟩ = some (.pointer p)) (fun _ h => h.2) (fun wx h => HK.out wx h.1) (fun A B => (Below w.heap.size w A ∧ A.cell? ⟨Bn, 0, none⟩ = some (.pointer p)) → Below w.heap.size w B ∧ B.cell? ⟨Bn, 0, none⟩ = some (.pointer p)) (fun _ _ h g => h g) w4
      (fun W hW => ⟨hbel5.trans (hW.mono hbase), (hW.cell hBn).trans hcn⟩))
    (fun h k g => k (h g)) (fun W x o o' hx _ _ _ g => ⟨g.1.grown (grownBy_putObj' W x o') (Nat.le_trans (Nat.le_refl _) g.1.size) (fun j e => by cases e; omega), (World.cell?_of_block (World.putObj_heap_other (by show Bn ≠ x; omega))).trans g.2⟩) (Below.refl _ _) (fun _ => rfl)
    (fun pre W => St w.heap.size w ((Bk, kv k, 37) :: (Bn, #[.pointer p], 59) :: (b5, #[.int .i64 0], 3) :: (b4, #[.pointer (if pre = [] then none else p)], 59) :: (b3, kv k, 37) :: []) W)
    (fun _ _ _ => False) (St.ownFrom _ hbase) (fun _ _ _ _ _ h _ _ => h) st5
    (fun _ => { tmps := #[.pointer p, .agg (kv k), undef, .pointer (some ⟨b3, 0, none⟩), .pointer (some ⟨b4, 0, none⟩), .pointer (some ⟨b5, 0, none⟩), .int .i64 0, .pointer p, .pointer p, .agg (kv k), .func (.func 122) #[] #[.pointer (some ⟨Bn, 0, none⟩), .pointer (some ⟨Bk, 0, none⟩)], .int .i64 0, .pointer p, undef, undef, undef, undef], defers := [] }) ?assign ?body ?done ?stop)
  case assign =>
    intro l' x W K' hK'
    gi_wp2
    exact hK'
  case stop =>
    rintro D c pre W _ _ h _
    exact h.elim
  case body =>
    rintro l' pre x W st _
    have hc4 := st.cell (i := 3) rfl 0
    have hf4 := st.free (i := 3) rfl 0
    have hne : b4 ≠ b5 := by
      have := st.nodup
      simp at this
      omega
    have st2 := st.set (i := 3) rfl 0 (.pointer p) rfl
    have hc5 := st2.cell (i := 2) rfl 0
    have hf5 := st2.free (i := 2) rfl 0
    have st3 := st2.set (i := 2) rfl 0 (.int .i64 0) rfl
    gi_wp2
    have e : (if pre ++ [x] = [] then (none : Option Addr) else p) = p := if_neg (by simp)
    refine ⟨KeepsFrom.trans (KeepsFrom.of_grownBy (Go.Lib.grownBy_setCell W b4 0 _) (by rintro j ⟨⟩; exact hb4)) (KeepsFrom.of_grownBy (Go.Lib.grownBy_setCell _ b5 0 _) (by rintro j ⟨⟩; exact hb5)), fun _ => ⟨st3.below, st3.cell (i := 1) rfl 0⟩, ?_⟩
    simp only [e]
    exact st3
  case done =>
    rintro D xs W hD rfl st hKd
    rw [if_neg (by simp)] at st
    go_wp2
    refine Inv.wp_region_inv 4 (fun wx => St w.heap.size w ((Bk, kv k, 37) :: (Bn, #[.pointer p], 59) :: (b5, #[.int .i64 0], 3) :: (b4, #[.pointer p], 59) :: (b3, kv k, 37) :: []) wx ∧ wx.heap[D]? = some (.deferred (some []))) mixed (by kernel_rfl) ⟨st.drew, hKd⟩ ?_
    have q : ∀ wx, (St w.heap.size w ((Bk, kv k, 37) :: (Bn, #[.pointer p], 59) :: (b5, #[.int .i64 0], 3) :: (b4, #[.pointer p], 59) :: (b3, kv k, 37) :: []) wx ∧ wx.heap[D]? = some (.deferred (some []))) → wx.cell? ⟨b4, 0, none⟩ = some (.pointer p) ∧ wx.cell? ⟨b5, 0, none⟩ = some (.int .i64 0) := fun wx h => ⟨h.1.cell (i := 3) rfl 0, h.1.cell (i := 2) rfl 0⟩
    simp only [List.take_succ_cons, List.take_zero, List.drop_succ_cons, List.drop_zero]
    iterate 2
      (refine Inv.wpInv_step (fun K hK => ?_); go_simp; apply inv_run; · (intro wx hw; have q1 := q wx hw; go_simp; (try go_ints); (try go_simp); (try (rw [if_pos (by omega)])); (try go_simp); (first | done | rfl))
       refine hK _ ?_; clear hK K)
    (refine Inv.wpInv_step (fun K hK => ?_); go_simp; refine And.intro (inv_storeC 59 (.tmp 4) (.tmp 15) rfl b4 0 (by rfl) (.pointer p) (by rfl) sizePN rfl rfl (fun wx h => ⟨⟨_, (q wx h).1⟩, h.1.free (i := 3) rfl 0, h.1.set (i := 3) rfl 0 (.pointer p) rfl, ?h1⟩)) ?_
     case h1 => rw [Below.heap_setCell _ _ _ _ (by show D ≠ b4; omega)]; exact h.2
     refine hK _ ?_; clear hK K)
    (refine Inv.wpInv_step (fun K hK => ?_); go_simp; refine And.intro (inv_storeC 3 (.tmp 5) (.tmp 16) rfl b5 0 (by rfl) (.int .i64 0) (by rfl) sizeI64 rfl rfl (fun wx h => ⟨⟨_, (q wx h).2⟩, h.1.free (i := 2) rfl 0, h.1.set (i := 2) rfl 0 (.int .i64 0) rfl, ?h1⟩)) ?_
     case h1 => rw [Below.heap_setCell _ _ _ _ (by show D ≠ b5; omega)]; exact h.2
     refine hK _ ?_; clear hK K)
    refine Inv.wpInv_nil ?_
    rintro w6 ⟨st6, hK6⟩
    go_wp2
    have st7 := st6.putDef (by omega) hK6
    have hc4 := st7.cell (i := 3) rfl 0
    have hc5 := st7.cell (i := 2) rfl 0
    refine retM D rfl hK6 ⟨rfl, .tuple #[.pointer p, .int .i64 0], ?_, rfl, st7.below⟩
    exact results_cells2 rfl _ _ rfl rfl (run_loadVar_one aggPN hc4) (run_loadVar_one aggI64 hc5)

end Go.Proofs.YtlcngapphloafaaGreatDoor
end

/- Package find: Siblings at a node that is no inner one. -/
section
open Go Go.RowKit
namespace Go.Proofs.YtlcngapphloafaaGreatDoor
attribute [local go_sem] Oper.semAt_some

theorem zeroSN : (Tryz.prog.info? 106).bind (·.zero) = some (.slice none 0 0) := by kernel_rfl

set_option maxRecDepth 100000 in
set_option maxHeartbeats 4000000 in
theorem Siblings_calls (p : Option Addr) (k : List Nat) (hk : k.length = 32) (kk : Int) (hkk : kk ≠ 2) (w : World)
    (hKind : ∀ wx, Below w.heap.size w wx → Calls Tryz.prog 39 #[.pointer p] wx fun e w' => e = .returned (.int .i64 kk) ∧ w' = wx) :
    Calls Tryz.prog 41 #[.pointer p, .agg (kv k)] w fun e w' => e = .returned (.slice none 0 0) ∧ Below w.heap.size w w' := by
  have HK := Lib.hid hKind
  have Hk := Lib.hid hk
  clear hKind hk
  have st := St.init w
  refine (callsIn_wide (n := 3)).1 ?_
  refine callsIn_of_wp_marks Tryz.func41 rfl trivial ?_ rfl
  simp only [Tryz.ntmps41, List.size_toArray, List.length_cons, List.length_nil, Nat.reduceAdd, Nat.reduceSub, Array.replicate_succ, Array.replicate_zero, List.push_toArray, List.append_toArray, List.nil_append, List.cons_append]
  refine wpIn_wide.2 ?_
  go_wp2_with (first
    | (refine wpList_boxA st rfl 37 _ rfl _ rfl ?_; intro b3 w1 st1; clear st)
    | (refine wpList_new st1 rfl 106 rfl _ zeroSN ?_; intro b5 w3 st3; clear st1)
    | (refine wpList_loadR rfl 37 _ rfl b3 rfl _ aggKey rfl _ _ (st3.at (i := 1) rfl) (sizeKv Hk.out) ?_)
    | (go_at_call 76; refine (way_calls p k _).mono ?_; rintro e w4 ⟨Bn, Bk, rfl, stw⟩))
  have st5 : St w.heap.size w ((Bk, kv k, 37) :: (Bn, #[.pointer p], 59) :: (b5, #[.slice none 0 0], 106) :: (b3, kv k, 37) :: []) w4 := st3.join stw
  clear st3 stw
  have hb5 : b5 < w4.heap.size := heap_lt (st5.at (i := 2) rfl)
  have hBn : Bn < w4.heap.size := heap_lt (st5.at (i := 1) rfl)
  have hcn : w4.cell? ⟨Bn, 0, none⟩ = some (.pointer p) := st5.cell (i := 1) rfl 0
  have hbase := st5.size
  have hbel5 := st5.below
  refine wpIn_wide.1 (wpIn_rangeFunc_ownG (F := Fence.wide) (n := 3) rfl (by omega) (gf := 122) (lb := #[.pointer (some ⟨Bn, 0, none⟩), .pointer (some ⟨Bk, 0, none⟩)]) rfl trivial (enters_of Tryz.func122 (by kernel_rfl) rfl)
    (way_stops 2 (by omega) Bn Bk p kk hkk (fun wx => Below w.heap.size w wx ∧ wx.cell? ⟨Bn, 0, none⟩ = some (.pointer p)) (fun _ h => h.2) (fun wx h => HK.out wx h.1) (fun A B => (Below w.heap.size w A ∧ A.cell? ⟨Bn, 0, none⟩ = some (.pointer p)) → Below w.heap.size w B ∧ B.cell? ⟨Bn, 0, none⟩ = some (.pointer p)) (fun _ _ h g => h g) w4
      (fun W hW => ⟨hbel5.trans (hW.mono hbase), (hW.cell hBn).trans hcn⟩))
    (fun h k g => k (h g)) (fun W x o o' hx _ _ _ g => ⟨g.1.grown (grownBy_putObj' W x o') (Nat.le_trans (Nat.le_refl _) g.1.size) (fun j e => by cases e; omega), (World.cell?_of_block (World.putObj_heap_other (by show Bn ≠ x; omega))).trans g.2⟩) (Below.refl _ _) (fun _ => rfl)
    (fun pre W => St w.heap.size w ((Bk, kv k, 37) :: (Bn, #[.pointer p], 59) :: (b5, #[.slice none 0 0], 106) :: (b3, kv k, 37) :: []) W)
    (fun _ _ _ => False) (St.ownFrom _ hbase) (fun _ _ _ _ _ h _ _ => h) st5
    (fun _ => { tmps := #[.pointer p, .agg (kv k), undef, .pointer (some ⟨b3, 0, none⟩), .slice none 0 0, .pointer (some ⟨b5, 0, none⟩), .int .i64 0, .pointer p, .pointer p, .agg (kv k), .func (.func 122) #[] #[.pointer (some ⟨Bn, 0, none⟩), .pointer (some ⟨Bk, 0, none⟩)], .int .i64 0, .pointer p, undef, undef, undef, undef, undef, undef, undef, undef, undef, undef, undef, undef, undef], defers := [] }) ?assign ?body ?done ?stop)
  case assign =>
    intro l' x W K' hK'
    gi_wp2
    exact hK'
  case stop =>
    rintro D c pre W _ _ h _
    exact h.elim
  case body =>
    rintro l' pre x W st _
    gi_wp2_with (first
      | (refine And.intro trivial ?_; gi_at_call 39; refine (CallsIn.inRound l' (callsIn_wide.2 (HK.out _ st.below))).mono ?_; rintro e w6 ⟨rfl, rfl⟩)
      | (gi_at_call 39; refine (CallsIn.inRound l' (callsIn_wide.2 (HK.out _ st.below))).mono ?_; rintro e w6 ⟨rfl, rfl⟩))
    exact ⟨KeepsFrom.refl _ _, fun g => g, st⟩
  case done =>
    rintro D xs W hD rfl st hKd
    have hc5 := st.cell (i := 2) rfl 0
    go_wp2
    have st7 := st.putDef (by omega) hKd
    refine retM D rfl hKd ⟨rfl, .slice none 0 0, ?_, rfl, st7.below⟩
    exact results_tmp (fn := Tryz.f41) rfl _ _ _

end Go.Proofs.YtlcngapphloafaaGreatDoor
end

/- Package tree: New, fail. -/
section
open Go Go.RowKit
namespace Go.Proofs.YtlcngapphloafaaGreatDoor

/-- A tree: the pointer to its hasher, the pointer to its root. -/
theorem TNew_calls (bits : Int) (hB : 0 ≤ bits ∧ bits ≤ 256) (w : World) :
    Calls Tryz.prog 24 #[.int .i64 bits] w fun e w' => ∃ tb hb cb, e = .returned (.tuple #[.pointer (some ⟨tb, 0, none⟩), .int .i64 0]) ∧ w.heap.size ≤ tb ∧ w.heap.size ≤ hb ∧ w.heap.size ≤ cb ∧ tb ≠ cb ∧
      w'.heap[tb]? = some (.cells #[.pointer (some ⟨hb, 0, none⟩), .pointer none] 111 (0, 0)) ∧ HasH hb cb bits 0 w' ∧ Below w.heap.size w w' := by
  have HN := Lib.hid (DNew_calls bits hB w)
  go_enter Tryz.func24, Tryz.ntmps24
  go_wp2_with (first
    | (go_at_call 26; refine HN.out.mono ?_; rintro e w1 ⟨hb, cb, rfl, h1, h2, hh, hbel⟩))
  go_ret2
  have st := (St.init w1).new #[.pointer (some ⟨hb, 0, none⟩), .pointer none] 111
  have hcb := heap_lt hh.c
  exact ⟨_, hb, cb, rfl, hbel.size, h1, h2, Nat.ne_of_gt hcb, st.at (i := 0) rfl, hh.call st.below, hbel.trans (st.below.mono hbel.size)⟩

theorem failOK_calls (op : Value) (at' : Value) (w : World) : Calls Tryz.prog 88 #[op, at', .int .i64 0] w fun e w' => e = .returned .nilIface ∧ w' = w := by
  go_enter Tryz.func88, Tryz.ntmps88
  go_wp2
  go_ret
  exact ⟨rfl, rfl⟩

end Go.Proofs.YtlcngapphloafaaGreatDoor
end
