/- The texts of errors: the contract of Error. -/
import Derived.Test.YtmadfppacfmpeaaDoorFOps
import Derived.Test.YtmadfppacfmpeaaDoorFShelf
import Derived.Lib.ItoaLen
open Go Go.RowKit Go.Extern.Stop Go.Stop Go.Extern
namespace Go.Proofs.YtmadfppacfmpeaaDoor
attribute [local irreducible] Inv.wpInv Mix.wpUp

def numB (n : Int) : ByteArray := ⟨(Lib.itoa n).toArray⟩
def errTxt (c : Int) : List Stp → ByteArray
  | [] => ⟨#[101, 114, 114, 111, 114, 32]⟩ ++ numB c
  | s :: l => s.1 ++ ⟨#[32]⟩ ++ numB s.2 ++ ⟨#[58, 32]⟩ ++ errTxt c l

theorem sizeApp (a b : ByteArray) : (a ++ b).size = a.size + b.size := ByteArray.size_append
theorem numB_size (n : Int) (h0 : -9223372036854775808 ≤ n) (h1 : n ≤ 9223372036854775807) : (numB n).size ≤ 21 := by
  have := Lib.itoa_length_le n h0 h1
  simpa [numB, ByteArray.size] using this

/-- The numeral of n comes out of strconv.Itoa in each world that grew from w0. -/
def ItoaAt (w0 : World) (n : Int) : Prop := (numB n).size ≤ 21 ∧ ∀ wx, Below w0.heap.size w0 wx → Calls Tryd.prog 23 #[.int .i64 n] wx fun e w' => e = .returned (.string (numB n)) ∧ Below wx.heap.size wx w'

theorem ItoaAt.small (w0 : World) (n : Int) (h0 : 0 ≤ n) (h1 : n < 100) : ItoaAt w0 n := by
  obtain ⟨u, rfl⟩ : ∃ u : Nat, n = u := ⟨n.toNat, by omega⟩
  refine ⟨numB_size _ (by omega) (by omega), fun wx _ => (Tryd.strconv_Itoa_small u (by omega) wx).mono ?_⟩
  rintro e w' ⟨rfl, rfl⟩
  exact ⟨by unfold numB; rw [Lib.itoa_nonneg], Below.refl _ _⟩

theorem ItoaAt.tab (w0 : World) (n : Int) (h0 : -9223372036854775808 ≤ n) (h1 : n ≤ 9223372036854775807) (hg : 4 ≤ w0.heap.size) (htab : Lib.TabIs Tryd.prog w0 "internal/strconv.uint64pow10" .u64 Lib.pow10Tab) : ItoaAt w0 n := by
  refine ⟨numB_size _ h0 h1, fun wx hb => (Tryd.strconv_Itoa n h0 h1 wx ?_).mono ?_⟩
  · exact var?_below hb (g := 1) (by kernel_rfl) (by omega) htab
  · rintro e w' ⟨rfl, k, os, rfl⟩
    refine ⟨rfl, below_drewN (Below.refl _ _) k |>.trans ⟨rfl, rfl, rfl, by simp, fun j hj => ?_⟩⟩
    exact Sort.heap_grow_old _ _ hj

theorem addStr (x y : ByteArray) (h : ((x.size + y.size : Nat) : Int) ≤ 9223372036854775807) (w : World) : (binOp .add 9 (.string x) (.string y)).run Tryd.prog w = .ok (.string (x ++ y)) w := by
  simp only [binOp]
  show (Op.stringOp .add x y).run _ _ = _
  have h' : ¬ ((x.size + y.size : Nat) : Int) > IntKind.i64.max := by
    show ¬ ((x.size + y.size : Nat) : Int) > 9223372036854775807
    omega
  simp only [Op.stringOp, if_neg h', Sem.run_pure]

set_option maxHeartbeats 1000000 in
theorem ErrnoError_calls (w0 : World) (c : Int) (hc : ItoaAt w0 c) (w : World) (hb : Below w0.heap.size w0 w) :
    Calls Tryd.prog 62 #[.int .i64 c] w fun e w' => e = .returned (.string (errTxt c [])) ∧ Below w.heap.size w w' := by
  have H1 := Lib.hid (hc.2 w hb)
  have hs := hc.1
  clear hc
  generalize hN : numB c = N at *
  have h0 : ((6 + N.size : Nat) : Int) ≤ 9223372036854775807 := by omega
  have st := St.init w
  go_enter Tryd.func62, Tryd.ntmps62
  go_wp2_with (first | (go_at_call 23; refine (H1.out).mono ?_; rintro e wn ⟨rfl, hbel⟩))
  go_ret
  exact ⟨by rw [← hN]; rfl, hbel⟩

theorem mixed : Tryd.prog.follows .mixedOrders = true := by kernel_rfl

theorem methErrE (v : Value) (w : World) : (Go.method 231 31 v "Error").run Tryd.prog w = .ok (62, v) w := by kernel_rfl
theorem methErrF (v : Value) (w : World) : (Go.method 231 44 v "Error").run Tryd.prog w = .ok (18, v) w := by kernel_rfl

set_option maxHeartbeats 1000000 in
theorem FError_step (b : Nat) (S N T : ByteArray) (n : Int) (t : TypeId) (u : Value) (f : FuncId) (w : World) (h0 : w.cell? ⟨b, 0, none⟩ = some (.string S)) (h1 : w.cell? ⟨b, 1, none⟩ = some (.int .i64 n)) (h2 : w.cell? ⟨b, 2, none⟩ = some (.iface t u))
    (hI : ∀ wx, Below w.heap.size w wx → Calls Tryd.prog 23 #[.int .i64 n] wx fun e w' => e = .returned (.string N) ∧ Below wx.heap.size wx w')
    (hm : ∀ wx, (Go.method 231 t u "Error").run Tryd.prog wx = .ok (f, u) wx)
    (hf : ∀ args wx, (callFunc f args).run Tryd.prog wx = .ok (.enter f args) wx)
    (hT : ∀ wx, Below w.heap.size w wx → Calls Tryd.prog f #[u] wx fun e w' => e = .returned (.string T) ∧ Below wx.heap.size wx w')
    (hs : S.size + N.size + T.size + 10 ≤ 9223372036854775807) :
    Calls Tryd.prog 18 #[.pointer (some ⟨b, 0, none⟩)] w fun e w' => e = .returned (.string (S ++ ⟨#[32]⟩ ++ N ++ ⟨#[58, 32]⟩ ++ T)) ∧ Below w.heap.size w w' := by
  have HI := Lib.hid hI
  have HT := Lib.hid hT
  have hs0 : ¬ 9223372036854775807 < S.size + N.size + T.size + 10 := by omega
  clear hI hT
  have st := St.init w
  go_enter Tryd.func18, Tryd.ntmps18
  go_wp2
  refine region_inv 19 st mixed (by kernel_rfl) ?_
  intro I hI hI'
  have q : ∀ wx, I wx → (wx.cell? ⟨b, 0, none⟩ = some (.string S) ∧ wx.cell? ⟨b, 1, none⟩ = some (.int .i64 n) ∧ wx.cell? ⟨b, 2, none⟩ = some (.iface t u)) := fun wx hw => by
    have hb := (hI wx hw).below
    rw [hb.cell (block_lt_of_cell h0), hb.cell (block_lt_of_cell h1), hb.cell (block_lt_of_cell h2)]
    exact ⟨h0, h1, h2⟩
  simp only [List.take_succ_cons, List.take_zero, List.drop_succ_cons, List.drop_zero]
  iterate 4
    (refine Inv.wpInv_step (fun K hK => ?_); go_simp; apply inv_run; · (intro wx hw; have q1 := q wx hw; go_simp; (try go_ints); (try go_simp); (try (rw [if_pos (by omega)])); (try go_simp); (first | done | rfl))
     refine hK _ ?_; clear hK K)
  (refine Inv.wpInv_step (fun K hK => ?_); go_simp; apply inv_run; · (intro wx hw; go_simp; (try simp only [ByteArray.size_append]); rw [if_neg (by first | omega | (show ¬ (9223372036854775807 < S.size + 1 + N.size + 2) ; omega) | (show ¬ (9223372036854775807 < S.size + 1 + N.size + 2 + T.size) ; omega))])
   refine hK _ ?_; clear hK K)
  iterate 4
    (refine Inv.wpInv_step (fun K hK => ?_); go_simp; apply inv_run; · (intro wx hw; have q1 := q wx hw; go_simp; (try go_ints); (try go_simp); (try (rw [if_pos (by omega)])); (try go_simp); (first | done | rfl))
     refine hK _ ?_; clear hK K)
  (refine Inv.wpInv_step (fun K hK => ?_); go_simp; refine inv_call hI hI' 23 _ ?_ (fun wx stx => HI.out wx stx.below) ?_; · (intro wx hw; go_simp)
   refine hK _ ?_; clear hK K)
  (refine Inv.wpInv_step (fun K hK => ?_); go_simp; apply inv_run; · (intro wx hw; go_simp; (try simp only [ByteArray.size_append]); rw [if_neg (by first | omega | (show ¬ (9223372036854775807 < S.size + 1 + N.size + 2) ; omega) | (show ¬ (9223372036854775807 < S.size + 1 + N.size + 2 + T.size) ; omega))])
   refine hK _ ?_; clear hK K)
  (refine Inv.wpInv_step (fun K hK => ?_); go_simp; apply inv_run; · (intro wx hw; go_simp; (try simp only [ByteArray.size_append]); rw [if_neg (by first | omega | (show ¬ (9223372036854775807 < S.size + 1 + N.size + 2) ; omega) | (show ¬ (9223372036854775807 < S.size + 1 + N.size + 2 + T.size) ; omega))])
   refine hK _ ?_; clear hK K)
  iterate 4
    (refine Inv.wpInv_step (fun K hK => ?_); go_simp; apply inv_run; · (intro wx hw; have q1 := q wx hw; go_simp; (try go_ints); (try go_simp); (try (rw [if_pos (by omega)])); (try go_simp); (first | done | rfl))
     refine hK _ ?_; clear hK K)
  (refine Inv.wpInv_step (fun K hK => ?_); go_simp; refine inv_call hI hI' f #[u] ?_ (fun wx stx => HT.out wx stx.below) ?_; · (intro wx hw; go_simp)
   refine hK _ ?_; clear hK K)
  (refine Inv.wpInv_step (fun K hK => ?_); go_simp; apply inv_run; · (intro wx hw; go_simp; (try simp only [ByteArray.size_append]); rw [if_neg (by first | omega | (show ¬ (9223372036854775807 < S.size + 1 + N.size + 2) ; omega) | (show ¬ (9223372036854775807 < S.size + 1 + N.size + 2 + T.size) ; omega))])
   refine hK _ ?_; clear hK K)
  iterate 1
    (refine Inv.wpInv_step (fun K hK => ?_); go_simp; apply inv_run; · (intro wx hw; have q1 := q wx hw; go_simp; (try go_ints); (try go_simp); (try (rw [if_pos (by omega)])); (try go_simp); (first | done | rfl))
     refine hK _ ?_; clear hK K)
  refine Inv.wpInv_nil ?_
  intro w9 st9
  clear hI hI'
  go_wp2
  go_ret
  exact ⟨rfl, st9.below⟩

theorem entErrE (args : Array Value) (w : World) : (callFunc 62 args).run Tryd.prog w = .ok (.enter 62 args) w := by kernel_rfl
theorem entErrF (args : Array Value) (w : World) : (callFunc 18 args).run Tryd.prog w = .ok (.enter 18 args) w := by kernel_rfl

/-- The method Error of this error gives this text in each world that grew from w. -/
def HasText (w : World) (v : Value) (x : ByteArray) : Prop := ∃ t u f, v = .iface t u ∧ (∀ wx, (Go.method 231 t u "Error").run Tryd.prog wx = .ok (f, u) wx) ∧ (∀ args wx, (callFunc f args).run Tryd.prog wx = .ok (.enter f args) wx) ∧
  ∀ wx, Below w.heap.size w wx → Calls Tryd.prog f #[u] wx fun e w' => e = .returned (.string x) ∧ Below wx.heap.size wx w'

theorem HasText.of_err (w0 : World) (c : Int) (hc : ItoaAt w0 c) : ∀ (l : List Stp) (v : Value) (w : World), (∀ s ∈ l, ItoaAt w0 s.2) → (errTxt c l).size ≤ 4611686018427387904 → Below w0.heap.size w0 w →
    IsErr w v l (.iface 31 (.int .i64 c)) → HasText w v (errTxt c l)
  | [], v, w, _, _, hb, h => by
    obtain rfl : v = _ := h
    exact ⟨_, _, _, rfl, methErrE _, entErrE, fun wx hbx => ErrnoError_calls w0 c hc wx (hb.trans (hbx.mono hb.size))⟩
  | s :: l, v, w, hl, hs, hb, h => by
    obtain ⟨b, inner, rfl, hrow, hi⟩ := h
    have hn := hl s (List.mem_cons_self ..)
    have hsz : s.1.size + 1 + (numB s.2).size + 2 + (errTxt c l).size ≤ 4611686018427387904 := by
      have := hs
      simp only [errTxt, sizeApp] at this
      exact this
    obtain ⟨t, u, f, rfl, h1, h2, h3⟩ := HasText.of_err w0 c hc l inner w (fun x hx => hl x (List.mem_cons_of_mem _ hx)) (by omega) hb hi
    refine ⟨_, _, _, rfl, methErrF _, entErrF, fun wx hbx => ?_⟩
    have c0 : w.cell? ⟨b, 0, none⟩ = some (.string s.1) := by simp [World.cell?, hrow]
    have c1 : w.cell? ⟨b, 1, none⟩ = some (.int .i64 s.2) := by simp [World.cell?, hrow]
    have c2 : w.cell? ⟨b, 2, none⟩ = some (.iface t u) := by simp [World.cell?, hrow]
    rw [← hbx.cell (block_lt_of_cell c0)] at c0
    rw [← hbx.cell (block_lt_of_cell c1)] at c1
    rw [← hbx.cell (block_lt_of_cell c2)] at c2
    refine FError_step b s.1 (numB s.2) (errTxt c l) s.2 t u f wx c0 c1 c2 (fun wy hby => hn.2 wy ((hb.trans (hbx.mono hb.size)).trans (hby.mono (Nat.le_trans hb.size hbx.size)))) h1 h2 (fun wy hby => h3 wy (hbx.trans (hby.mono hbx.size))) ?_
    omega

end Go.Proofs.YtmadfppacfmpeaaDoor
