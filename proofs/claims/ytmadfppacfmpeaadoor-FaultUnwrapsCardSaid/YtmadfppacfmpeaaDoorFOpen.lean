/- How a slice of Steps that came in is opened; what the condition on the listed variable gives a walk. -/
import Derived.Test.YtmadfppacfmpeaaDoorRows
import Derived.Test.YtmadfppacfmpeaaDoorFLaws4
import Derived.Deep.SlicePairs
import Derived.ProofKit
import Derived.OpenShut
import Derived.ShutString
import Derived.ChangeOld
import Derived.Below
import Derived.ChangeSame
import Derived.ChangeVars
import Derived.JoinedOf
import Derived.LaidLaws
import Derived.LaidHandle
import Derived.Stop.Joined
open Go Go.ChangeShapes Go.WideShapes Go.ChangeAt Go.RowKit
open Go.ChangeMaps (open_string shut_string)
namespace Go.Proofs.YtmadfppacfmpeaaDoor

theorem addPlain (b off n : Nat) : (⟨b, off, none⟩ : Addr).add n = ⟨b, off + n, none⟩ := by unfold Addr.add; split <;> simp_all

set_option maxRecDepth 100000 in
theorem open_steps {H : Type} {enc : TypeId × Value → H} {W : World} {base : Nat} {v : Value} {d : DataW H} {p : List MemPlace} (hv : Value.okWide Tryd.prog W .any base 22 v)
    (h : DataW.Trod enc Tryd.prog W 0 (fun _ => true) true 22 v d p) : ∃ l, RdS W v l := by
  obtain ⟨a, len, cap, rfl⟩ := okWide_slice Tryd.underlying22 hv
  obtain ⟨fuel, hf⟩ := h
  rcases Go.Deep.open_slice_pairs Tryd.underlying22 Tryd.underlying40 (by kernel_rfl) rfl rfl (by kernel_rfl) (by kernel_rfl) hf with ⟨hcs, _⟩ | ⟨x, l, c, m, n, V0, V1, D0, D1, P0, P1, hcs, _, hlc, hcm, hm, _, hall⟩
  · simp [Value.cells] at hcs
    obtain ⟨rfl, rfl, rfl⟩ := hcs
    exact ⟨[], Nat.zero_le _, .inl ⟨rfl, _, _, rfl⟩⟩
  · simp [Value.cells] at hcs
    obtain ⟨rfl, rfl, rfl⟩ := hcs
    have hm' : m = cap := by simpa using hm
    subst hm'
    have one : ∀ i, i < len → ∃ s : Stp, W.cell? (x.add (i * 2)) = some (.string s.1) ∧ W.cell? (x.add (i * 2 + 1)) = some (.int .i64 s.2) := fun i hi => by
      obtain ⟨h0, h1, t0, t1⟩ := hall i (by omega)
      obtain ⟨s, hs, _⟩ := DataW.trod_string Tryd.underlying9 t0
      obtain ⟨k, hk, _⟩ := DataW.trod_int Tryd.underlying3 t1
      injection hs with hs _
      injection hk with hk _
      exact ⟨(s, k), by rw [h0, hs], by rw [h1, hk]⟩
    obtain ⟨q, hq⟩ := Go.Deep.choose_lt one
    refine ⟨(List.range len).map q, ⟨by simp; omega, ?_⟩⟩
    by_cases h0 : len = 0
    · subst h0
      exact .inl ⟨rfl, _, _, rfl⟩
    · obtain ⟨b, off, spot⟩ := x
      have hspot : spot = none := by
        have := World.cell?_spot (hq 0 (by omega)).1
        simpa [Addr.add] using this
      subst hspot
      refine .inr ⟨b, off, m, by simp, fun i s hi => ?_⟩
      rw [List.getElem?_map] at hi
      obtain ⟨j, hj, rfl⟩ := Option.map_eq_some_iff.1 hi
      obtain ⟨hil, hij⟩ := List.getElem?_eq_some_iff.1 hj
      have hji : j = i := by simpa using hij.symm
      subst hji
      have h1 := hq j (by simpa using hil)
      rw [addPlain, addPlain] at h1
      exact h1

theorem own : ownKnob Tryd.prog.godebug = none := by kernel_rfl
theorem laidOut : laidOutB Tryd.prog = true := by kernel_rfl
theorem etNamed : Tryd.prog.globalNamed "errors.errorType" = some 0 := by kernel_rfl
theorem rtNamed : (Tryd.prog.cutTypes.find? (·.1 == "internal/reflectlite.rtype")).map (·.2) = some 71 := by kernel_rfl
theorem oneRow : ((List.range 131).filter fun t => Tryd.prog.rowNamed t [101, 114, 114, 111, 114]) = [26] := by kernel_rfl
theorem typesSize : Tryd.prog.types.size = 131 := by kernel_rfl

/-- What the condition gives a walk: the variable's one cell. -/
theorem handle_of {W : World} (h : handlesMet Tryd.prog [("errors.errorType", Rows.laid_errors_errorType)] W) : GotET W := by
  obtain ⟨name, u, ty, e1, e2, e3, e4, e5⟩ := h _ (List.mem_singleton.2 rfl)
  have en : name = [101, 114, 114, 111, 114] := (Option.some.inj e1).symm
  subst en
  obtain rfl := Option.some.inj (rtNamed.symm.trans e2)
  have hm : ty ∈ (List.range 131).filter fun t => Tryd.prog.rowNamed t [101, 114, 114, 111, 114] := List.mem_filter.2 ⟨List.mem_range.2 (by rw [← typesSize]; exact e3), e4⟩
  rw [oneRow] at hm
  obtain rfl := List.mem_singleton.1 hm
  have hh : typeHandle Tryd.prog 26 = hnd 26 := by kernel_rfl
  rw [hh] at e5
  have h9 := World.var?_cell etNamed e5 0
  unfold GotET
  simpa using h9

def laidH : List (String × DataW Unit) := [("errors.errorType", Rows.laid_errors_errorType)]
theorem handle_of_laid {W : World} (h : laidMetH Tryd.prog laidH W) : GotET W := by
  have h' : laidMet Tryd.prog [] W ∧ handlesMet Tryd.prog laidH W := h
  exact handle_of h'.2

/-- A world that meets the condition. -/
noncomputable def laidWorld (os : Os) : World :=
  let w0 := World.holding Tryd.prog os ⟨#[], #[], []⟩
  { w0 with heap := w0.heap.modify 0 fun
      | .cells _ t frozen => .cells #[.iface 71 (.agg #[hnd 26])] t frozen
      | o => o }
theorem laidWorld_met (os : Os) (args : Array Value) : laidMetH Tryd.prog laidH ((laidWorld os).forCall (fun _ _ => 0) ⟨#[], args, []⟩).memory :=
  laidMetH_of_parts (laidMet_nil _ _) (by kernel_rfl)

end Go.Proofs.YtmadfppacfmpeaaDoor
