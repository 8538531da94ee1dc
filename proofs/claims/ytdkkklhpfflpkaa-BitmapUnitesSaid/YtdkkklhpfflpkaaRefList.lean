/- The contract of the reference's List: the numbers from 0 to 255 of a list, in ascending order. -/
import Derived.Test.YtdkkklhpfflpkaaList
open Go Go.RowKit
namespace Go.Proofs.Ytdkkklhpfflpkaa

def refK (l : List Int) (k : Nat) : List Int := ((List.range k).filter fun (i : Nat) => decide ((i : Int) ∈ l)).map fun (n : Nat) => (n : Int)
def refL (l : List Int) : List Int := refK l 256
theorem refK_len (l : List Int) (k : Nat) : (refK l k).length ≤ k := by
  unfold refK
  rw [List.length_map]
  have := List.length_filter_le (fun (i : Nat) => decide ((i : Int) ∈ l)) (List.range k)
  simpa using this
theorem refK_yes (l : List Int) (k : Nat) (h : (k : Int) ∈ l) : refK l (k + 1) = refK l k ++ [(k : Int)] := by
  unfold refK
  rw [List.range_succ, List.filter_append, List.map_append]
  simp [h]
theorem refK_no (l : List Int) (k : Nat) (h : ¬ (k : Int) ∈ l) : refK l (k + 1) = refK l k := by
  unfold refK
  rw [List.range_succ, List.filter_append, List.map_append]
  simp [h]

theorem Rd.kept {w w' : World} {v : Value} {l : List Int} {b : Nat} (h : Rd w v l) (hk : ∀ k, k ≠ b → w'.heap[k]? = w.heap[k]?) (hv : ∀ k, v.ownBlock = some k → k ≠ b) : Rd w' v l := by
  refine ⟨h.1, ?_⟩
  rcases h.2 with h | ⟨b', off, cap, rfl, hc⟩
  · exact .inl h
  · refine .inr ⟨b', off, cap, rfl, fun i hi => ?_⟩
    rw [World.cell?_of_block (w := w) (hk b' (hv b' rfl))]
    exact hc i hi

/-- A slice's value, and its cells where there is one. -/
theorem Rd.open {w : World} {v : Value} {l : List Int} (h : Rd w v l) : ∃ a cap, v = .slice a l.length cap ∧
    Hid (0 < l.length → ∃ b off, a = some ⟨b, off, none⟩ ∧ ∀ w' : World, Below w.heap.size w w' → ∀ k : Int, 0 ≤ k → k < l.length → w'.cell? ⟨b, off + k.toNat, none⟩ = some (.int .i64 (l.getD k.toNat 0))) := by
  rcases h.2 with ⟨rfl, a, cap, rfl⟩ | ⟨b, off, cap, rfl, hc⟩
  · exact ⟨a, cap, rfl, fun h => absurd h (by decide)⟩
  · refine ⟨_, cap, rfl, fun _ => ⟨b, off, rfl, fun w' hb k k0 k1 => ?_⟩⟩
    rw [hb.cell (block_lt_cell (hc k.toNat (by omega)))]
    exact hc k.toNat (by omega)

theorem mem_take_succ (l : List Int) (x : Int) (j : Nat) (hj : j < l.length) : decide (x ∈ l.take (j + 1)) = (decide (x ∈ l.take j) || (l.getD j 0 == x)) := by
  have hg : l.getD j 0 = l[j] := by simp [List.getD_eq_getElem?_getD, hj]
  rw [List.take_succ_eq_append_getElem hj, Bool.eq_iff_iff, hg, decide_eq_true_eq, Bool.or_eq_true, decide_eq_true_eq, beq_iff_eq, List.mem_append, List.mem_singleton]
  exact or_congr_right ⟨Eq.symm, Eq.symm⟩

set_option maxHeartbeats 2000000 in
theorem RefList_calls (l : List Int) (v : Value) (w : World) (hv : Rd w v l) :
    Calls Try.prog 37 #[v] w fun e w' => IsList w w' (refL l) e := by
  have hm := hv.1
  unfold maxLen at hm
  obtain ⟨a, cap, rfl, Hc⟩ := hv.open
  clear hv
  have st := St.init w
  go_enter Try.func37, Try.ntmps37
  go_wp2
  go_loopw [3, 4] (fun out i wr => ∃ k : Int, 0 ≤ k ∧ k ≤ 256 ∧ i = .int .i64 k ∧ St w.heap.size w [] wr ∧ wr.ownsRow w.heap.size 3 1 out (refK l k.toNat).length (icells (refK l k.toNat))) (fun _ i _ => (256 - intOf i).toNat)
  case atStart => exact ⟨0, by omega, by omega, rfl, st, World.ownsRow_nil _ _ _ _⟩
  case round =>
    obtain ⟨k, k0, k1, rfl, st3, hown⟩ := hrel
    clear st
    have Hown := Lib.hid hown
    clear hown
    by_cases hlt : k < 256
    · have Hsl := Lib.hid (refK_len l k.toNat)
      go_wp2
      go_loop [5, 6] (fun f j => ∃ m : Int, 0 ≤ m ∧ m ≤ (l.length : Int) ∧ j = .int .i64 m ∧ f = .bool (decide (k ∈ l.take m.toNat))) (fun _ j => ((l.length : Int) - intOf j).toNat)
      case atStart => exact ⟨0, by omega, by omega, rfl, by simp⟩
      case round =>
        obtain ⟨m, m0, m1, rfl, rfl⟩ := hrel
        by_cases hml : m < (l.length : Int)
        · obtain ⟨bl, off, rfl, hcell⟩ := Hc.out (by omega)
          have hcm := hcell wr st3.below m m0 hml
          have hstep := mem_take_succ l k m.toNat (by omega)
          rw [show m.toNat + 1 = (m + 1).toNat by omega] at hstep
          have Hstep := Lib.hid hstep
          have Hcell := Lib.hid hcell
          clear hstep hcell
          by_cases hx : (l.getD m.toNat 0 == k) = true
          · generalize l.getD m.toNat 0 = X at *
            go_wp2
            go_round
            case rel => exact ⟨m + 1, by omega, by omega, rfl, by rw [Hstep.out, hx, Bool.or_true]⟩
            case measure => simp [intOf]; omega
          · have hx' : (l.getD m.toNat 0 == k) = false := by simpa using hx
            clear hx
            generalize l.getD m.toNat 0 = X at *
            go_wp2
            go_round
            case rel => exact ⟨m + 1, by omega, by omega, rfl, by rw [Hstep.out, hx', Bool.or_false]⟩
            case measure => simp [intOf]; omega
        · have e : l.take m.toNat = l := List.take_of_length_le (by omega)
          rw [e]
          clear e
          have hkn : ((k.toNat : Nat) : Int) = k := by omega
          by_cases hin : k ∈ l
          · have hnext := refK_yes l k.toNat (by rw [hkn]; exact hin)
            rw [hkn, show k.toNat + 1 = (k + 1).toNat by omega] at hnext
            have Hnext := Lib.hid hnext
            have hd : decide (k ∈ l) = true := by simpa using hin
            rw [hd]
            clear hnext hin hkn hd
            go_wp2_with (refine wpList_buildSlice st3 rfl 30 1 _ rfl 3 sliceInt _ 1 zeroInt sizeInt (by decide) (by decide) [(0, .int .i64 k)] ?_ _ (fill1 k) ?_; · (simp [Act.eval]; done))
            intro b5 w5 st5 hb5
            have hown5 := Lib.hid (own_call Hown.out hb5)
            refine wpList_appendOwn (base := w.heap.size) st5.drop (fun p hp => by simp at hp) (Nat.le_refl _) rfl _ _ 30 rfl 3 _ 1 8 sliceInt zeroInt sizeInt bytesInt rfl (by decide) _ _ _ rfl hown5.out b5 1 1 (iv [k]) 3 rfl rfl (st5.at (i := 0) rfl) (iv_one _) ?_ ?_ st5.size ?_
            · have := Hsl.out; unfold maxLen; omega
            · have := Hsl.out; omega
            intro v' w6 st6 hown6 _ _
            clear hown5 st3 st5 hb5
            have e1 : (refK l k.toNat).length + 1 = (refK l (k + 1).toNat).length := by rw [Hnext.out, List.length_append]; rfl
            have e2 : icells (refK l k.toNat) ++ (iv [k]).toList = icells (refK l (k + 1).toNat) := by rw [Hnext.out, icells_app]; rfl
            rw [e1, e2] at hown6
            have Hown6 := Lib.hid hown6
            clear hown6 e1 e2
            go_wp2
            go_roundw
            case rel => exact ⟨k + 1, by omega, by omega, rfl, st6, Hown6.out⟩
            case measure => simp [intOf]; omega
          · have hnext := refK_no l k.toNat (by rw [hkn]; exact hin)
            rw [show k.toNat + 1 = (k + 1).toNat by omega] at hnext
            have Hnext := Lib.hid hnext
            have hd : decide (k ∈ l) = false := by simpa using hin
            rw [hd]
            clear hnext hin hkn hd
            go_wp2
            go_roundw
            case rel => exact ⟨k + 1, by omega, by omega, rfl, st3, by rw [Hnext.out]; exact Hown.out⟩
            case measure => simp [intOf]; omega
    · have e : k.toNat = 256 := by omega
      have h1 := Hown.out
      rw [e] at h1
      have H1 := Lib.hid h1
      have hsl : Hid ((refL l).length ≤ 256) := refK_len l 256
      clear h1 Hown e
      go_wp2
      go_ret
      exact ⟨u3, rfl, Rd.of_own (l := refL l) rfl H1.out (by have := hsl.out; unfold maxLen; omega), st3.below, fun k hk => (H1.out.lt k hk).1⟩

end Go.Proofs.Ytdkkklhpfflpkaa
