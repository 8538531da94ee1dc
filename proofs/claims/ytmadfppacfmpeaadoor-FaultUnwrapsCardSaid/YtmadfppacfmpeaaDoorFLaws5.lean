/- The walk of FaultUnwraps. -/
import Derived.Test.YtmadfppacfmpeaaDoorFRefText
open Go Go.RowKit Go.Extern.Stop Go.Stop Go.Extern
namespace Go.Proofs.YtmadfppacfmpeaaDoor

/-- The table of strconv is as the program's text lays it. -/
def HasTab (w : World) : Prop := 1 < w.heap.size ∧ Lib.TabIs Tryd.prog w "internal/strconv.uint64pow10" .u64 Lib.pow10Tab
theorem HasTab.call {w w' : World} (h : HasTab w) (hb : Below w.heap.size w w') : HasTab w' :=
  ⟨Nat.lt_of_lt_of_le h.1 hb.size, var?_below hb (g := 1) (by kernel_rfl) h.1 h.2⟩
theorem ItoaAt.tab2 (w0 : World) (n : Int) (h0 : -9223372036854775808 ≤ n) (h1 : n ≤ 9223372036854775807) (h : HasTab w0) : ItoaAt w0 n := by
  refine ⟨numB_size _ h0 h1, fun wx hb => (Tryd.strconv_Itoa n h0 h1 wx (h.call hb).2).mono ?_⟩
  rintro e w' ⟨rfl, k, os, rfl⟩
  refine ⟨rfl, below_drewN (Below.refl _ _) k |>.trans ⟨rfl, rfl, rfl, by simp, fun j hj => ?_⟩⟩
  exact Sort.heap_grow_old _ _ hj

theorem Unwrap_none (w : World) : Calls Tryd.prog 17 #[.pointer none] w fun e w' => e = .returned .nilIface ∧ w' = w := by
  go_enter Tryd.func17, Tryd.ntmps17
  go_wp2
  go_ret
  exact ⟨rfl, rfl⟩
theorem Error_none (w : World) : Calls Tryd.prog 18 #[.pointer none] w fun e w' => e = .returned (.string ⟨#[]⟩) ∧ w' = w := by
  go_enter Tryd.func18, Tryd.ntmps18
  go_wp2
  go_ret
  exact ⟨rfl, rfl⟩
theorem zeroFault : (Tryd.prog.info? 42).bind (·.zero) = some (.agg #[.string ⟨#[]⟩, .int .i64 0, .nilIface]) := by kernel_rfl
theorem sizeFault : (Tryd.prog.info? 42).map (·.size) = some 3 := by kernel_rfl

theorem oneFault (S : ByteArray) (N : Int) (t : TypeId) (u : Value) : ∀ q ∈ (Value.agg #[.string S, .int .i64 N, .iface t u]).cells.toList, q.oneCell' = true := by
  intro q hq
  simp [Value.cells] at hq
  rcases hq with rfl | rfl | rfl <;> rfl

set_option maxRecDepth 20000 in
set_option maxHeartbeats 4000000 in
theorem FaultUnwraps_walk (l : List Stp) (v : Value) (S : ByteArray) (N code : Int) (w : World) (hv : RdS w v l) (hg : GotET w) (ht : HasTab w) (hr : ∀ s ∈ l, -9223372036854775808 ≤ s.2 ∧ s.2 ≤ 9223372036854775807)
    (c0 : -9223372036854775808 ≤ code) (c1 : code ≤ 9223372036854775807) :
    Calls Tryd.prog 7 #[v, .agg #[.string S, .int .i64 N], .int .i64 code] w fun e w' => e = .returned (.bool true) ∧ Below w.heap.size w w' := by
  have hm := hv.1
  unfold maxLen at hm
  have HV := Lib.hid hv
  have HG := Lib.hid hg
  have HT := Lib.hid ht
  have HR := Lib.hid hr
  obtain ⟨a, cap, rfl, _⟩ := hv.open
  clear hv hg ht hr
  have st := St.init w
  go_enter Tryd.func7, Tryd.ntmps7
  go_wp2_with (first
    | (refine wpList_boxA (by assumption) rfl 40 _ rfl _ rfl ?_; intro b1 w1 st1; clear st)
    | (go_at_call 9; refine (long_calls l _ _ (HV.out.call (St.below (by assumption)))).mono ?_; rintro e wn ⟨b, rfl, hb, hbel⟩; have stn := St.call (by assumption) hbel; have HB := Lib.hid hb; have c10 := stn.cell (i := 0) rfl 0; have c11 := stn.cell (i := 0) rfl 1; clear hbel hb)
    | (go_at_call 10; refine (alive_calls _ (HG.out.call (St.below (by assumption)))).mono ?_; rintro e wn ⟨rfl, hbel⟩; have stn := St.call (by assumption) hbel; clear hbel)
    | (go_at_call 10; refine (alive_calls _ (HGb.out.call (St.below (by assumption)))).mono ?_; rintro e wn ⟨rfl, hbel⟩; have stn := St.call (by assumption) hbel; clear hbel)
    | (go_at_call 11; refine (build_calls l _ code _ (HV.out.call (St.below (by assumption)))).mono ?_; rintro e wb ⟨u, rfl, herr, hbel⟩
       have stx := St.call (by assumption) hbel
       have k10 : wb.cell? ⟨b1, 0, none⟩ = some (.string S) := stx.cell (i := 0) rfl 0
       have k11 : wb.cell? ⟨b1, 1, none⟩ = some (.int .i64 N) := stx.cell (i := 0) rfl 1
       have Hbw := Lib.hid stx.below
       have HGb := Lib.hid (HG.out.call stx.below)
       have hVb := HV.out.call stx.below
       have hTb := HT.out.call stx.below
       have HE := Lib.hid herr
       have hl := HB.out (by simpa using ‹¬ b = true›)
       have hok : ∀ s ∈ l, StpOk s := fun s hs => ⟨hl.2 s hs, HR.out s hs⟩
       have hsz := errTxt_size code (numB_size code c0 c1) l.reverse (fun s hs => hok s (List.mem_reverse.1 hs))
       rw [List.length_reverse] at hsz
       obtain ⟨t, uu, f, rfl, hm1, hf1, hX3⟩ := HasText.of_err wb code (ItoaAt.tab2 wb code c0 c1 hTb) l.reverse u wb (fun s hs => ItoaAt.tab2 wb s.2 (hok s (List.mem_reverse.1 hs)).2.1 (hok s (List.mem_reverse.1 hs)).2.2 hTb) (by omega) (Below.refl _ _) herr
       have HX := Lib.hid hX3
       have HY : Hid (∀ wx, Below wb.heap.size wb wx → Calls Tryd.prog 12 #[.slice a l.length cap, .int .i64 code] wx fun e w' => e = .returned (.string (errTxt code l.reverse)) ∧ Below wx.heap.size wx w') := fun wx hb => Text_calls l _ code wx (hVb.call hb) hl.1 hok c0 c1
       have HC : Hid (∀ wx, Below wb.heap.size wb wx → Calls Tryd.prog 13 #[.iface t uu] wx fun e w' => e = .returned (.int .i64 code) ∧ Below wx.heap.size wx w') := fun wx hb => Code_code l.reverse _ code wx (HGb.out.call hb) (herr.call hb)
       have Hl := Lib.hid hl.1
       have stb := St.init wb
       have hB := builtFault S N t uu
       clear HG HV HT HR HB hVb hTb hl hok hsz hX3 herr hbel stx
       generalize errTxt code l.reverse = X at *)
    | (refine wpList_build rfl 42 _ rfl [(0, .string S), (1, .int .i64 N), (2, .iface t uu)] ?_ _ hB ?_; · (simp [Act.eval]; done))
    | (refine wpList_newA stb rfl 42 rfl _ zeroFault ?_; intro b2 w2 st2)
    | (refine wpList_storeR st2 rfl 42 _ _ rfl 0 b2 rfl (.agg #[.string S, .int .i64 N, .iface t uu]) rfl _ _ rfl sizeFault rfl (oneFault S N t uu) _ rfl ?_; intro w3 st3
       have hrow := st3.at (i := 0) rfl)
    | (go_at_call 17; with_reducible refine (Unwrap_none _).mono ?_; rintro e wn ⟨rfl, rfl⟩)
    | (go_at_call 17; refine (Unwrap_calls b2 _ _ _ _ hrow).mono ?_; rintro e wn ⟨rfl, rfl⟩; clear hrow)
    | (go_at_call 18; with_reducible refine (Error_none _).mono ?_; rintro e wn ⟨rfl, rfl⟩)
    | (go_at_fn f; refine (HX.out _ (St.below (by assumption))).mono ?_; rintro e wn ⟨rfl, hbel⟩; have stn := St.call (by assumption) hbel; clear hbel)
    | (go_at_call 12; refine (HY.out _ (St.below (by assumption))).mono ?_; rintro e wn ⟨rfl, hbel⟩; have stn := St.call (by assumption) hbel; clear hbel)
    | (go_at_call 13; refine (HC.out _ (St.below (by assumption))).mono ?_; rintro e wn ⟨rfl, hbel⟩; have stn := St.call (by assumption) hbel; clear hbel)
    | (go_at_call 15; refine (Ops_calls ((S, N) :: l.reverse) _ _ _ _ (by decide) (asFE _) ⟨b2, _, rfl, St.at (by assumption) (i := 0) rfl, HE.out.call (St.below (by assumption))⟩ (by have := Hl.out; rw [List.length_cons, List.length_reverse]; omega)).mono ?_
       rintro e wn ⟨r, rfl, hr, hbel⟩; have stn := St.call (by assumption) hbel; obtain ⟨ra, rcap, rfl⟩ := hr.slice; rw [opCells_len, List.length_cons, List.length_reverse]; clear hr hbel
       have hL3 := Hl.out
       have hMt : (((l.length + 1 : Nat) : Int) == (l.length : Int) + 1) = true := by rw [beq_iff_eq]; omega
       have hMb : ((l.length + 1 : Nat) : Int) ≤ 301 := by omega
       generalize l.length + 1 = M at *
       clear hm))
  · go_ret
    exact ⟨rfl, St.below (by assumption)⟩
  · go_ret
    exact ⟨rfl, St.below (by assumption)⟩
  · go_ret
    exact ⟨rfl, Hbw.out.trans (stn.below.mono Hbw.out.size)⟩

end Go.Proofs.YtmadfppacfmpeaaDoor
