/- The arguments of FaultUnwraps, and its four listed variables. -/
import Derived.Test.YtmadfppacfmpeaaDoorFOpen
import Derived.Test.YtmadfppacfmpeaaDoorFLaws5
import Derived.Lay
import Derived.Lib.SmallJoins
open Go Go.ChangeShapes Go.WideShapes Go.ChangeAt Go.RowKit
namespace Go.Proofs.YtmadfppacfmpeaaDoor

def InI64 (n : Int) : Prop := -9223372036854775808 ≤ n ∧ n ≤ 9223372036854775807
theorem inI64 {n : Int} (h : (Lit.int .i64 n).wf = true) : InI64 n := by
  have := bounds_i64 h
  exact ⟨by omega, by omega⟩

set_option maxRecDepth 100000 in
theorem open_steps2 {H : Type} {enc : TypeId × Value → H} {W : World} {base : Nat} {v : Value} {d : DataW H} {p : List MemPlace} (hv : Value.okWide Tryd.prog W .any base 22 v)
    (h : DataW.Trod enc Tryd.prog W 0 (fun _ => true) true 22 v d p) : ∃ l, RdS W v l ∧ ∀ s ∈ l, InI64 s.2 := by
  obtain ⟨a, len, cap, rfl⟩ := okWide_slice Tryd.underlying22 hv
  obtain ⟨fuel, hf⟩ := h
  rcases Go.Deep.open_slice_pairs Tryd.underlying22 Tryd.underlying40 (by kernel_rfl) rfl rfl (by kernel_rfl) (by kernel_rfl) hf with ⟨hcs, _⟩ | ⟨x, l, c, m, n, V0, V1, D0, D1, P0, P1, hcs, _, hlc, hcm, hm, _, hall⟩
  · simp [Value.cells] at hcs
    obtain ⟨rfl, rfl, rfl⟩ := hcs
    exact ⟨[], ⟨Nat.zero_le _, .inl ⟨rfl, _, _, rfl⟩⟩, fun s hs => by cases hs⟩
  · simp [Value.cells] at hcs
    obtain ⟨rfl, rfl, rfl⟩ := hcs
    have hm' : m = cap := by simpa using hm
    subst hm'
    have one : ∀ i, i < len → ∃ s : Stp, (W.cell? (x.add (i * 2)) = some (.string s.1) ∧ W.cell? (x.add (i * 2 + 1)) = some (.int .i64 s.2)) ∧ InI64 s.2 := fun i hi => by
      obtain ⟨h0, h1, t0, t1⟩ := hall i (by omega)
      obtain ⟨s, hs, _⟩ := DataW.trod_string Tryd.underlying9 t0
      obtain ⟨k, hk, _, hw⟩ := DataW.trod_int Tryd.underlying3 t1
      injection hs with hs _
      injection hk with hk _
      exact ⟨(s, k), ⟨by rw [h0, hs], by rw [h1, hk]⟩, inI64 hw⟩
    obtain ⟨q, hq⟩ := Go.Deep.choose_lt one
    refine ⟨(List.range len).map q, ⟨by simp; omega, ?_⟩, fun s hs => ?_⟩
    · by_cases h0 : len = 0
      · subst h0
        exact .inl ⟨rfl, _, _, rfl⟩
      · obtain ⟨b, off, spot⟩ := x
        have hspot : spot = none := by
          have := World.cell?_spot (hq 0 (by omega)).1.1
          simpa [Addr.add] using this
        subst hspot
        refine .inr ⟨b, off, m, by simp, fun i s hi => ?_⟩
        rw [List.getElem?_map] at hi
        obtain ⟨j, hj, rfl⟩ := Option.map_eq_some_iff.1 hi
        obtain ⟨hil, hij⟩ := List.getElem?_eq_some_iff.1 hj
        have hji : j = i := by simpa using hij.symm
        subst hji
        have h1 := (hq j (by simpa using hil)).1
        rw [addPlain, addPlain] at h1
        exact h1
    · obtain ⟨i, hi, rfl⟩ := List.mem_map.1 hs
      exact (hq i (List.mem_range.1 hi)).2

set_option maxRecDepth 100000 in
theorem open_step {H : Type} {enc : TypeId × Value → H} {W : World} {base : Nat} {v : Value} {d : DataW H} {p : List MemPlace} (hv : Value.okWide Tryd.prog W .any base 40 v)
    (h : DataW.Trod enc Tryd.prog W 0 (fun _ => true) true 40 v d p) : ∃ S N, v = .agg #[.string S, .int .i64 N] := by
  obtain ⟨v0, v1, y0, y1, n, rfl, _, _, t0, t1⟩ := Go.Joins.open_agg2 Tryd.underlying40 (by kernel_rfl) (by kernel_rfl) hv h
  obtain ⟨s, hs, _⟩ := DataW.trod_string Tryd.underlying9 t0
  obtain ⟨k, hk, _, hw⟩ := DataW.trod_int Tryd.underlying3 t1
  injection hs with hs _
  injection hk with hk _
  exact ⟨s, k, by rw [hs, hk]⟩

def laidD : List (String × DataW Unit) := [("math/bits.deBruijn32tab", Rows.laid_math_bits_deBruijn32tab), ("math/bits.deBruijn64tab", Rows.laid_math_bits_deBruijn64tab), ("internal/strconv.uint64pow10", Rows.laid_internal_strconv_uint64pow10)]
def laid4 : List (String × DataW Unit) := [("math/bits.deBruijn32tab", Rows.laid_math_bits_deBruijn32tab), ("math/bits.deBruijn64tab", Rows.laid_math_bits_deBruijn64tab), ("internal/strconv.uint64pow10", Rows.laid_internal_strconv_uint64pow10), ("errors.errorType", Rows.laid_errors_errorType)]
theorem laid4_data : (laid4.filter fun x => x.2.handleName?.isNone) = laidD := rfl
theorem laid4_handles : (laid4.filter fun x => x.2.handleName?.isSome) = laidH := rfl
theorem powData : (Rows.laid_internal_strconv_uint64pow10 : DataW Unit) = Lib.tabData .u64 Lib.pow10Tab := rfl

theorem of_laid4 {W : World} (h : laidMetH Tryd.prog laid4 W) : GotET W ∧ HasTab W := by
  unfold laidMetH at h
  rw [laid4_handles, laid4_data] at h
  obtain ⟨h1, h2⟩ : laidMet Tryd.prog laidD W ∧ handlesMet Tryd.prog laidH W := h
  refine ⟨handle_of h2, ?_⟩
  have ht : Lib.TabIs Tryd.prog W "internal/strconv.uint64pow10" .u64 Lib.pow10Tab := by
    obtain ⟨ps, hv, _⟩ := h1
    unfold laidD at hv
    obtain ⟨_, _, _, _, _, _, _, _, _, _, hv, _⟩ := hv
    obtain ⟨_, _, _, _, _, _, _, _, _, _, hv, _⟩ := hv
    obtain ⟨g', t', cs, fuel, p, q, hg', ht', hvar, hd, _, _⟩ := hv
    obtain rfl := Option.some.inj ((show Tryd.prog.globalNamed "internal/strconv.uint64pow10" = some 1 by kernel_rfl).symm.trans hg')
    obtain rfl := Option.some.inj ((show (Tryd.prog.globals[1]?).map (·.type) = some 94 by kernel_rfl).symm.trans ht')
    unfold Lib.TabIs
    rw [powData] at hd
    rw [hvar, ← Lib.cells_of_tab Tryd.underlying94 Tryd.underlying55 (by kernel_rfl) (by kernel_rfl) hd]
  refine ⟨?_, ht⟩
  unfold Lib.TabIs World.var? at ht
  rw [show Tryd.prog.globalNamed "internal/strconv.uint64pow10" = some 1 by kernel_rfl] at ht
  rcases Nat.lt_or_ge 1 W.heap.size with hlt | hge
  · exact hlt
  · rw [Option.bind_some, Array.getElem?_eq_none hge] at ht
    cases ht

/-- A world that meets the four conditions. -/
noncomputable def laidWorld4 (os : Os) : World := (laidWorld os).layVars Tryd.prog laidD
theorem laidWorld4_met (os : Os) (args : Array Value) : laidMetH Tryd.prog laid4 ((laidWorld4 os).forCall (fun _ _ => 0) ⟨#[], args, []⟩).memory := by
  refine laidMetH_of_parts ?_ (by kernel_rfl)
  rw [laid4_data]
  have e1 : (laidD.filter fun x => (laidD.map (·.1)).contains x.1) = laidD := List.filter_eq_self.2 fun x hx => List.contains_iff_mem.2 (List.mem_map.2 ⟨x, hx, rfl⟩)
  have e2 : (laidD.filter fun x => !(laidD.map (·.1)).contains x.1) = [] := List.filter_eq_nil_iff.2 fun x hx => by rw [List.contains_iff_mem.2 (List.mem_map.2 ⟨x, hx, rfl⟩)]; simp
  have h : laidMet Tryd.prog laidD (laidWorld4 os) := laidMet_layVars (w0 := laidWorld os) (laidD.map (·.1)) [] (by rw [e1]; rfl) (by rw [e1]; kernel_rfl) (by rw [e1]; kernel_rfl) (by rw [e2]; exact LaidIn.none)
  exact h.of_heap (by simp [World.memory, World.forCall, Input.heap])

end Go.Proofs.YtmadfppacfmpeaaDoor
