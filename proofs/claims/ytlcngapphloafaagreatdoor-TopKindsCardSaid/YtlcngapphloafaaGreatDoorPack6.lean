/- Parts of the proof that are used by the claim: Open. No condition is added here. -/
import Derived.Test.YtlcngapphloafaaGreatDoorPack2
import Derived.ProofKit
import Derived.OpenShut
import Derived.ChangeOld

/- How an argument of 32 bytes is opened: its value is the row of a list of 32 numbers below 256. No program is named here. -/
section
open Go Go.RowKit
namespace Go.Proofs.YtlcngapphloafaaGreatDoor

theorem wf_u8_lt {n : Int} (h : (Lit.int .u8 n).wf = true) : 0 ≤ n ∧ n < 256 := by
  have := bounds_u8 h
  omega

theorem open_key {P : Program} {H : Type} {enc : TypeId × Value → H} {W : World} {base : Nat} {t e : TypeId} {v : Value} {d : DataW H} {p : List MemPlace} (ht : P.underlying t = some (.array 32 e)) (he : P.underlying e = some (.int .u8))
    (hce : P.cellsOf e = 1) (hct : P.cellsOf t = 32) (hv : Value.okWide P W .any base t v) (h : DataW.Trod enc P W 0 (fun _ => true) true t v d p) : ∃ l, v = .agg (kv l) ∧ Key l := by
  simp only [Value.okWide, ht] at hv
  obtain ⟨cs, rfl, hcs, _⟩ := hv
  obtain ⟨fuel, hf⟩ := h
  obtain ⟨xs, m, _, _, hl, hx, hall⟩ := DataW.trod_array ht hf
  rw [hce] at hall
  rw [hct] at hcs
  have hone : ∀ i, i < 32 → ∃ n : Int, cs[i]? = some (.int .u8 n) ∧ 0 ≤ n ∧ n < 256 := fun i hi => by
    have h1 := hall i hi
    have hxi : xs[i]? = some xs[i] := List.getElem?_eq_getElem (by omega)
    rw [hxi] at h1
    obtain ⟨n, hn, _, hw⟩ := DataW.trod_int he h1
    have hci : (Value.agg cs).cells.toList = cs.toList := rfl
    rw [hci, Nat.mul_one] at hn
    have h2 := congrArg List.head? hn
    rw [List.head?_take, if_neg (by decide), List.head?_drop] at h2
    exact ⟨n, by rw [← Array.getElem?_toList]; exact h2, wf_u8_lt hw⟩
  refine ⟨(List.range 32).map fun i => match cs[i]? with | some (Value.int _ n) => n.toNat | _ => 0, ?_, ?_, ?_⟩
  · congr 1
    apply Array.ext_getElem?
    intro i
    by_cases hi : i < 32
    · obtain ⟨n, hn, h0, h1⟩ := hone i hi
      rw [hn, kv_get _ i (by simp [hi])]
      rw [List.getD_eq_getElem?_getD, List.getElem?_map, List.getElem?_range hi]
      simp only [Option.map_some, Option.getD_some, hn]
      rw [Int.toNat_of_nonneg h0]
    · rw [Array.getElem?_eq_none (by omega), Array.getElem?_eq_none (by rw [kv_size]; simp; omega)]
  · simp
  · intro x hx
    obtain ⟨i, hi, rfl⟩ := List.mem_map.1 hx
    obtain ⟨n, hn, h0, h1⟩ := hone i (by simpa using hi)
    simp only [hn]
    omega

/-- What a walk is told of a slice of ints that came in: it is nil; or it leads to a row of 'cap' cells, the first 'len' of them its elements. -/
def IsRow (w : World) (a : Option Addr) (len cap : Nat) (zs : List Int) : Prop :=
  (a = none ∧ len = 0 ∧ cap = 0 ∧ zs = []) ∨
  ∃ x, a = some x ∧ len ≤ cap ∧ cap ≤ maxLen ∧ zs.length = cap ∧ (∀ i, i < zs.length → w.cell? (x.add i) = some (.int .i64 (zs.getD i 0))) ∧ ∀ n ∈ zs, (Lit.int .i64 n).wf = true

end Go.Proofs.YtlcngapphloafaaGreatDoor
end
